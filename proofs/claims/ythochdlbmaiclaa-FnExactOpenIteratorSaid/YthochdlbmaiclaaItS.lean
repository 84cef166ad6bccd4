/- Iterators whose parts lie apart: words, marking, finding marks. Written by iters.py. -/
import Derived.Test.YthochdlbmaiclaaIt
import Derived.Test.YthochdlbmaiclaaItC
import Derived.Test.YthochdlbmaiclaaMarkS
import Derived.Test.YthochdlbmaiclaaCell
import Derived.Deep.DeepCutAuto
import Derived.Deep.CutBlock
namespace Go.Proofs.Ythochdlbmaiclaa
set_option linter.unusedSimpArgs false
set_option linter.unusedVariables false
open Go.RowKit
/-- the intervals of blocks: within bounds, pairwise apart -/
def Apart4 (lo hi s0 t0 s1 t1 s2 t2 s3 t3 : Nat) : Prop := (lo ≤ s0 ∧ t0 ≤ hi ∧ lo ≤ s1 ∧ t1 ≤ hi ∧ lo ≤ s2 ∧ t2 ≤ hi ∧ lo ≤ s3 ∧ t3 ≤ hi) ∧ (t0 ≤ s1 ∨ t1 ≤ s0) ∧ (t0 ≤ s2 ∨ t2 ≤ s0) ∧ (t0 ≤ s3 ∨ t3 ≤ s0) ∧ (t1 ≤ s2 ∨ t2 ≤ s1) ∧ (t1 ≤ s3 ∨ t3 ≤ s1) ∧ (t2 ≤ s3 ∨ t3 ≤ s2)
def IterS (lo hi : Nat) (w : World) (ar : Int) (a : Option Addr) (n c : Nat) (rows : List (List Int)) (la : Option Addr) (ln lc : Nat) (lw : List Int) (ga : Option Addr) (gn gc : Nat) (gh : List Int) (pa : Option Addr) (pn pc : Nat) (ps : List Int) : Prop :=
  I64 ar ∧ ∃ s0 t0 s1 t1 s2 t2 s3 t3, RowsS s0 t0 w a n c rows ∧ IntsA true s1 t1 w la ln lc lw ∧ IntsA true s2 t2 w ga gn gc gh ∧ IntsA true s3 t3 w pa pn pc ps ∧ Apart4 lo hi s0 t0 s1 t1 s2 t2 s3 t3
section
variable {lo hi B lo' : Nat} {w w' : World} {ar : Int} {a : Option Addr} {n c : Nat} {rows : List (List Int)} {la : Option Addr} {ln lc : Nat} {lw : List Int} {ga : Option Addr} {gn gc : Nat} {gh : List Int} {pa : Option Addr} {pn pc : Nat} {ps : List Int}
theorem IterS.it (h : IterS lo hi w ar a n c rows la ln lc lw ga gn gc gh pa pn pc ps) : IterA true lo hi w ar a n c rows la ln lc lw ga gn gc gh pa pn pc ps := by
  obtain ⟨h64, s0, t0, s1, t1, s2, t2, s3, t3, h0, h1, h2, h3, hA⟩ := h
  unfold Apart4 at hA
  exact ⟨⟨h64, SlA.wide intsOK h0.rows (by omega) (by omega)⟩, h1.wide (by omega) (by omega), h2.wide (by omega) (by omega), h3.wide (by omega) (by omega)⟩
theorem kpIterS (h : IterS lo hi w ar a n c rows la ln lc lw ga gn gc gh pa pn pc ps) (hb : Keeps lo hi w w') : IterS lo hi w' ar a n c rows la ln lc lw ga gn gc gh pa pn pc ps := by
  obtain ⟨h64, s0, t0, s1, t1, s2, t2, s3, t3, h0, h1, h2, h3, hA⟩ := h
  have hA' := hA
  unfold Apart4 at hA'
  exact ⟨h64, s0, t0, s1, t1, s2, t2, s3, t3, SepA.keep intsQOK h0 (hb.mono (by omega) (by omega)), h1.keep (hb.mono (by omega) (by omega)), h2.keep (hb.mono (by omega) (by omega)), h3.keep (hb.mono (by omega) (by omega)), hA⟩
theorem beIterS (h : IterS lo hi w ar a n c rows la ln lc lw ga gn gc gh pa pn pc ps) (hb : Below B w w') (hh : hi ≤ B) : IterS lo hi w' ar a n c rows la ln lc lw ga gn gc gh pa pn pc ps := kpIterS h (Keeps.of_below hb hh)
theorem wdIterS (h : IterS lo hi w ar a n c rows la ln lc lw ga gn gc gh pa pn pc ps) (hl : lo' ≤ lo) : IterS lo' hi w ar a n c rows la ln lc lw ga gn gc gh pa pn pc ps := by
  obtain ⟨h64, s0, t0, s1, t1, s2, t2, s3, t3, h0, h1, h2, h3, hA⟩ := h
  exact ⟨h64, s0, t0, s1, t1, s2, t2, s3, t3, h0, h1, h2, h3, by unfold Apart4 at *; omega⟩
theorem hgIterS {hi' : Nat} (h : IterS lo hi w ar a n c rows la ln lc lw ga gn gc gh pa pn pc ps) (hl : hi ≤ hi') : IterS lo hi' w ar a n c rows la ln lc lw ga gn gc gh pa pn pc ps := by
  obtain ⟨h64, s0, t0, s1, t1, s2, t2, s3, t3, h0, h1, h2, h3, hA⟩ := h
  exact ⟨h64, s0, t0, s1, t1, s2, t2, s3, t3, h0, h1, h2, h3, by unfold Apart4 at *; omega⟩
end
/-- the marked parts -/
def mkIR (k : Int) (rows : List (List Int)) : List (List Int) := mkRows k rows
def mkIL (k : Int) (rows : List (List Int)) (lw : List Int) : List Int := marks (k + lens rows rows.length) lw.length
def mkIH (k : Int) (rows : List (List Int)) (lw gh : List Int) : List Int := marks (k + lens rows rows.length + lw.length) gh.length
def mkIP (k : Int) (rows : List (List Int)) (lw gh ps : List Int) : List Int := marks (k + lens rows rows.length + lw.length + gh.length) ps.length
def GvMarkIter (lo hi : Nat) (w : World) (k : Int) (ar : Int) (a : Option Addr) (n c : Nat) (rows : List (List Int)) (la : Option Addr) (ln lc : Nat) (lw : List Int) (ga : Option Addr) (gn gc : Nat) (gh : List Int) (pa : Option Addr) (pn pc : Nat) (ps : List Int) (e : Ending) (w' : World) : Prop :=
  e = .returned (.int .i64 (k + (cntIter rows lw gh ps : Nat))) ∧ MarkedG lo hi w w' ∧ IterA true lo hi w' ar a n c (mkIR k rows) la ln lc (mkIL k rows lw) ga gn gc (mkIH k rows lw gh) pa pn pc (mkIP k rows lw gh ps)
/-- marking the rows of a trie whose rows lie apart -/
def GvMarkTrieS (lo hi : Nat) (w : World) (r : Int) (a : Option Addr) (n c : Nat) (yss : List (List Int)) (e : Ending) (w' : World) : Prop := e = .returned (.int .i64 r) ∧ MarkedG lo hi w w' ∧ RowsS lo hi w' a n c yss
set_option maxHeartbeats 1600000 in
theorem markTrieS {lo hi : Nat} (ar : Int) (a : Option Addr) (n c : Nat) (rows : List (List Int)) (k : Int) (w : World) (hI : RowsS lo hi w a n c rows) (hh : hi ≤ w.heap.size) (h0 : 0 ≤ k) (h1 : k ≤ 2097152) (hsz : rowsSz rows ≤ 1048576) :
    Calls Try.prog 14 #[trieV ar a n c, .int .i64 k] w (GvMarkTrieS lo hi w (k + lens rows n) a n c (mkRows k rows)) := by
  have HI := hid hI; clear hI
  go_enter Try.func14, Try.ntmps14
  go_wp2_with fail
  refine (markRowsS a n c rows k _ (SepA.keep intsQOK HI.out (Keeps.al (Keeps.refl _ _ _) hh _)) h0 h1 hsz).mono ?_
  rintro e w1 ⟨rfl, hm1, r0⟩
  have HM1 := hid ((MarkedG.of_below (lo := lo) (hi := hi) (w := w) (by repeat (first | with_reducible assumption | with_reducible exact Below.refl _ _ | with_reducible refine below_drewN ?_ _ | with_reducible refine Below.al ?_ (by first | with_reducible exact Nat.le_refl _ | omega | (simp; done) | (simp; omega) | exact Nat.le_refl _) _ | with_reducible refine Below.setCell ?_ (by first | with_reducible exact Nat.le_refl _ | omega | (simp; done) | (simp; omega) | exact Nat.le_refl _) _ | assumption | exact Below.refl _ _ | refine below_drewN ?_ _ | refine Below.al ?_ (by first | with_reducible exact Nat.le_refl _ | omega | (simp; done) | (simp; omega) | exact Nat.le_refl _) _ | refine Below.setCell ?_ (by first | with_reducible exact Nat.le_refl _ | omega | (simp; done) | (simp; omega) | exact Nat.le_refl _) _))).trans (.of_marked hm1))
  have HR := hid r0; clear hm1 r0
  go_wp2_with fail
  go_ret
  exact ⟨rfl, HM1.out, HR.out⟩
set_option maxHeartbeats 1600000 in
theorem heldTrieS {fz : Bool} {lo hi : Nat} (ar : Int) (a : Option Addr) (n c : Nat) (rows : List (List Int)) (k : Int) (w : World) (hI : RowsA fz lo hi w a n c (mkRows k rows)) (hh : hi ≤ w.heap.size) (h0 : 0 ≤ k) (h1 : k ≤ 2097152) (hsz : rowsSz rows ≤ 1048576) (hn : rows.length = n) :
    Calls Try.prog 37 #[trieV ar a n c, .int .i64 k] w (Leaves w (.int .i64 (k + lens rows n))) := by
  have hsum : lens rows n ≤ 1048576 := by unfold rowsSz at hsz; rw [hn] at hsz; omega
  have hnn : ¬ k + (lens rows n : Int) < 0 := by omega
  have HI := hid hI; clear hI hn
  go_enter Try.func37, Try.ntmps37
  go_wp2_with fail
  refine (heldRows a n c rows k _ (SlA.be intsOK (B := w.heap.size) HI.out (by repeat (first | with_reducible assumption | with_reducible exact Below.refl _ _ | with_reducible refine below_drewN ?_ _ | with_reducible refine Below.al ?_ (by first | with_reducible exact Nat.le_refl _ | omega | (simp; done) | (simp; omega) | exact Nat.le_refl _) _ | with_reducible refine Below.setCell ?_ (by first | with_reducible exact Nat.le_refl _ | omega | (simp; done) | (simp; omega) | exact Nat.le_refl _) _ | assumption | exact Below.refl _ _ | refine below_drewN ?_ _ | refine Below.al ?_ (by first | with_reducible exact Nat.le_refl _ | omega | (simp; done) | (simp; omega) | exact Nat.le_refl _) _ | refine Below.setCell ?_ (by first | with_reducible exact Nat.le_refl _ | omega | (simp; done) | (simp; omega) | exact Nat.le_refl _) _)) hh) h0 h1 hsz).mono ?_
  rintro e w1 ⟨rfl, m1, rfl⟩
  go_wp2_with fail
  go_ret
  exact ⟨rfl, (by repeat (first | with_reducible assumption | with_reducible exact Below.refl _ _ | with_reducible refine below_drewN ?_ _ | with_reducible refine below_drew1 ?_ | with_reducible refine Below.al ?_ (by first | with_reducible exact Nat.le_refl _ | omega | (simp; done) | (simp; omega) | exact Nat.le_refl _) _ | with_reducible refine Below.setCell ?_ (by first | with_reducible exact Nat.le_refl _ | omega | (simp; done) | (simp; omega) | exact Nat.le_refl _) _ | assumption | exact Below.refl _ _ | refine below_drewN ?_ _ | refine below_drew1 ?_ | refine Below.al ?_ (by first | with_reducible exact Nat.le_refl _ | omega | (simp; done) | (simp; omega) | exact Nat.le_refl _) _ | refine Below.setCell ?_ (by first | with_reducible exact Nat.le_refl _ | omega | (simp; done) | (simp; omega) | exact Nat.le_refl _) _))⟩
set_option maxRecDepth 100000 in
set_option maxHeartbeats 3200000 in
theorem resK_Iter {lo hi : Nat} (ar : Int) (a : Option Addr) (n c : Nat) (rows : List (List Int)) (la : Option Addr) (ln lc : Nat) (lw : List Int) (ga : Option Addr) (gn gc : Nat) (gh : List Int) (pa : Option Addr) (pn pc : Nat) (ps : List Int) (k : Int) (w : World) (hI : IterS lo hi w ar a n c rows la ln lc lw ga gn gc gh pa pn pc ps) (hh : hi ≤ w.heap.size) (h0 : 0 ≤ k) (h1 : k ≤ 1048576) (hs : szIter rows lw gh ps ≤ 1048576) :
    Calls Try.prog 15 #[iterV ar a n c la ln lc ga gn gc pa pn pc, .int .i64 k] w (GvMarkIter lo hi w k ar a n c rows la ln lc lw ga gn gc gh pa pn pc ps) := by
  obtain ⟨h64, s0, t0, s1, t1, s2, t2, s3, t3, p0, p1, p2, p3, hA⟩ := hI
  unfold Apart4 at hA
  have hl0 := p0.len; have hl1 := p1.len; have hl2 := p2.len; have hl3 := p3.len
  have hsz : rowsSz rows ≤ 1048576 ∧ lens rows n + ln + gn + pn ≤ 1048576 := by unfold szIter at hs; rw [hl1, hl2, hl3] at hs; refine ⟨by omega, ?_⟩; unfold rowsSz at hs; rw [hl0] at hs; omega
  have HE : Hid (k + (lens rows n : Int) + ln + gn + pn = k + (cntIter rows lw gh ps : Nat)) := hid (by unfold cntIter; rw [hl0, hl1, hl2, hl3]; omega)
  have HL := hid (And.intro hl0 (And.intro hl1 (And.intro hl2 hl3)))
  have HSZ := hid hsz.1
  have hsz2 := hsz.2
  clear hsz hs hl0 hl1 hl2 hl3
  have HAR := hid h64; clear h64
  have HP := hid (And.intro p0 (And.intro p1 (And.intro p2 p3))); clear p0 p1 p2 p3
  obtain ⟨W, hW⟩ : ∃ W, W = w.alloc (.cells #[.int .i64 ar, .slice a n c, .slice la ln lc, .slice ga gn gc, .slice pa pn pc] 29) := ⟨_, rfl⟩
  have hBW : Below w.heap.size w W := by rw [hW]; exact (by repeat (first | with_reducible assumption | with_reducible exact Below.refl _ _ | with_reducible refine below_drewN ?_ _ | with_reducible refine Below.al ?_ (by first | with_reducible exact Nat.le_refl _ | omega | (simp; done) | (simp; omega) | exact Nat.le_refl _) _ | with_reducible refine Below.setCell ?_ (by first | with_reducible exact Nat.le_refl _ | omega | (simp; done) | (simp; omega) | exact Nat.le_refl _) _ | assumption | exact Below.refl _ _ | refine below_drewN ?_ _ | refine Below.al ?_ (by first | with_reducible exact Nat.le_refl _ | omega | (simp; done) | (simp; omega) | exact Nat.le_refl _) _ | refine Below.setCell ?_ (by first | with_reducible exact Nat.le_refl _ | omega | (simp; done) | (simp; omega) | exact Nat.le_refl _) _))
  have hz : W.heap.size = w.heap.size + 1 := by rw [hW]; simp
  have c0 : W.cell? ⟨w.heap.size, 0, none⟩ = some (.int .i64 ar) := by rw [hW]; simp
  have c1 : W.cell? ⟨w.heap.size, 1, none⟩ = some (.slice a n c) := by rw [hW]; simp
  have c2 : W.cell? ⟨w.heap.size, 2, none⟩ = some (.slice la ln lc) := by rw [hW]; simp
  have c3 : W.cell? ⟨w.heap.size, 3, none⟩ = some (.slice ga gn gc) := by rw [hW]; simp
  have c4 : W.cell? ⟨w.heap.size, 4, none⟩ = some (.slice pa pn pc) := by rw [hW]; simp
  have hkW : ∀ s t, t ≤ hi → Keeps s t w W := fun s t ht => Keeps.of_below hBW (by omega)
  have HQ := hid (And.intro (SepA.keep intsQOK HP.out.1 (hkW _ _ (by omega))) (And.intro (HP.out.2.1.keep (hkW _ _ (by omega))) (And.intro (HP.out.2.2.1.keep (hkW _ _ (by omega))) (HP.out.2.2.2.keep (hkW _ _ (by omega))))))
  have HM0 := hid (MarkedG.of_below (lo := lo) (hi := hi) (w := w) hBW)
  have HW := hid hW; clear hW hBW hkW
  go_enter Try.func15, Try.ntmps15
  go_upto_region 1 with fail
  rw [← HW.out]
  go_wp2_with fail
  refine (markTrieS ar a n c rows k _ HQ.out.1 (by omega) h0 (by omega) HSZ.out).mono ?_
  rintro e w1 ⟨rfl, hm1, r0⟩
  have hz1 : W.heap.size ≤ w1.heap.size := hm1.size
  have c0w1 : w1.cell? ⟨w.heap.size, 0, none⟩ = some (.int .i64 ar) := by rw [boxG hm1 _ (by omega) (by omega)]; exact c0
  have c1w1 : w1.cell? ⟨w.heap.size, 1, none⟩ = some (.slice a n c) := by rw [boxG hm1 _ (by omega) (by omega)]; exact c1
  have c2w1 : w1.cell? ⟨w.heap.size, 2, none⟩ = some (.slice la ln lc) := by rw [boxG hm1 _ (by omega) (by omega)]; exact c2
  have c3w1 : w1.cell? ⟨w.heap.size, 3, none⟩ = some (.slice ga gn gc) := by rw [boxG hm1 _ (by omega) (by omega)]; exact c3
  have c4w1 : w1.cell? ⟨w.heap.size, 4, none⟩ = some (.slice pa pn pc) := by rw [boxG hm1 _ (by omega) (by omega)]; exact c4
  have r1 := HQ.out.2.1.keep (hm1.keeps (lo' := s1) (hi' := t1) (by omega) (by omega)); have r2 := HQ.out.2.2.1.keep (hm1.keeps (lo' := s2) (hi' := t2) (by omega) (by omega)); have r3 := HQ.out.2.2.2.keep (hm1.keeps (lo' := s3) (hi' := t3) (by omega) (by omega))
  have HM1 := hid (HM0.out.trans (hm1.wide (lo' := lo) (hi' := hi) (by omega) (by omega)))
  have HR1 := hid (And.intro r0 (And.intro r1 (And.intro r2 r3))); clear hm1 r0 r1 r2 r3
  go_wp2_with fail
  refine (markInts la ln lc lw (k + (lens rows n : Int)) _ HR1.out.2.1 (by omega) (by omega) (by omega)).mono ?_
  rintro e w2 ⟨rfl, hm, rr⟩
  have hm := MarkedG.of_marked hm
  have hz2 : W.heap.size ≤ w2.heap.size := Nat.le_trans hz1 hm.size
  have c0w2 : w2.cell? ⟨w.heap.size, 0, none⟩ = some (.int .i64 ar) := by rw [boxG hm _ (by omega) (by omega)]; exact c0w1
  have c1w2 : w2.cell? ⟨w.heap.size, 1, none⟩ = some (.slice a n c) := by rw [boxG hm _ (by omega) (by omega)]; exact c1w1
  have c2w2 : w2.cell? ⟨w.heap.size, 2, none⟩ = some (.slice la ln lc) := by rw [boxG hm _ (by omega) (by omega)]; exact c2w1
  have c3w2 : w2.cell? ⟨w.heap.size, 3, none⟩ = some (.slice ga gn gc) := by rw [boxG hm _ (by omega) (by omega)]; exact c3w1
  have c4w2 : w2.cell? ⟨w.heap.size, 4, none⟩ = some (.slice pa pn pc) := by rw [boxG hm _ (by omega) (by omega)]; exact c4w1
  clear c0w1
  clear c1w1
  clear c2w1
  clear c3w1
  clear c4w1
  have HM2 := hid (HM1.out.trans (hm.wide (lo' := lo) (hi' := hi) (by omega) (by omega)))
  have HR2 := hid (And.intro (SepA.keep intsQOK HR1.out.1 (hm.keeps (by omega) (by omega))) (And.intro rr (And.intro (HR1.out.2.2.1.keep (hm.keeps (by omega) (by omega))) (HR1.out.2.2.2.keep (hm.keeps (by omega) (by omega)))))); clear hm rr
  go_wp2_with fail
  refine (markInts ga gn gc gh (k + (lens rows n : Int) + ln) _ HR2.out.2.2.1 (by omega) (by omega) (by omega)).mono ?_
  rintro e w3 ⟨rfl, hm, rr⟩
  have hm := MarkedG.of_marked hm
  have hz3 : W.heap.size ≤ w3.heap.size := Nat.le_trans hz2 hm.size
  have c0w3 : w3.cell? ⟨w.heap.size, 0, none⟩ = some (.int .i64 ar) := by rw [boxG hm _ (by omega) (by omega)]; exact c0w2
  have c1w3 : w3.cell? ⟨w.heap.size, 1, none⟩ = some (.slice a n c) := by rw [boxG hm _ (by omega) (by omega)]; exact c1w2
  have c2w3 : w3.cell? ⟨w.heap.size, 2, none⟩ = some (.slice la ln lc) := by rw [boxG hm _ (by omega) (by omega)]; exact c2w2
  have c3w3 : w3.cell? ⟨w.heap.size, 3, none⟩ = some (.slice ga gn gc) := by rw [boxG hm _ (by omega) (by omega)]; exact c3w2
  have c4w3 : w3.cell? ⟨w.heap.size, 4, none⟩ = some (.slice pa pn pc) := by rw [boxG hm _ (by omega) (by omega)]; exact c4w2
  clear c0w2
  clear c1w2
  clear c2w2
  clear c3w2
  clear c4w2
  have HM3 := hid (HM2.out.trans (hm.wide (lo' := lo) (hi' := hi) (by omega) (by omega)))
  have HR3 := hid (And.intro (SepA.keep intsQOK HR2.out.1 (hm.keeps (by omega) (by omega))) (And.intro (HR2.out.2.1.keep (hm.keeps (by omega) (by omega))) (And.intro rr (HR2.out.2.2.2.keep (hm.keeps (by omega) (by omega)))))); clear hm rr
  go_wp2_with fail
  refine (markInts pa pn pc ps (k + (lens rows n : Int) + ln + gn) _ HR3.out.2.2.2 (by omega) (by omega) (by omega)).mono ?_
  rintro e w4 ⟨rfl, hm, rr⟩
  have hm := MarkedG.of_marked hm
  have hz4 : W.heap.size ≤ w4.heap.size := Nat.le_trans hz3 hm.size
  have c0w4 : w4.cell? ⟨w.heap.size, 0, none⟩ = some (.int .i64 ar) := by rw [boxG hm _ (by omega) (by omega)]; exact c0w3
  have c1w4 : w4.cell? ⟨w.heap.size, 1, none⟩ = some (.slice a n c) := by rw [boxG hm _ (by omega) (by omega)]; exact c1w3
  have c2w4 : w4.cell? ⟨w.heap.size, 2, none⟩ = some (.slice la ln lc) := by rw [boxG hm _ (by omega) (by omega)]; exact c2w3
  have c3w4 : w4.cell? ⟨w.heap.size, 3, none⟩ = some (.slice ga gn gc) := by rw [boxG hm _ (by omega) (by omega)]; exact c3w3
  have c4w4 : w4.cell? ⟨w.heap.size, 4, none⟩ = some (.slice pa pn pc) := by rw [boxG hm _ (by omega) (by omega)]; exact c4w3
  clear c0w3
  clear c1w3
  clear c2w3
  clear c3w3
  clear c4w3
  have HM4 := hid (HM3.out.trans (hm.wide (lo' := lo) (hi' := hi) (by omega) (by omega)))
  have HR4 := hid (And.intro (SepA.keep intsQOK HR3.out.1 (hm.keeps (by omega) (by omega))) (And.intro (HR3.out.2.1.keep (hm.keeps (by omega) (by omega))) (And.intro (HR3.out.2.2.1.keep (hm.keeps (by omega) (by omega))) rr))); clear hm rr
  go_wp2_with fail
  go_ret
  refine ⟨by rw [← HE.out]; rfl, HM4.out, ⟨HAR.out, SlA.wide intsOK (RowsS.rows HR4.out.1) (by omega) (by omega)⟩, ?_, ?_, ?_⟩
  · unfold mkIL; rw [HL.out.1, HL.out.2.1]; exact HR4.out.2.1.wide (by omega) (by omega)
  · unfold mkIH; rw [HL.out.1, HL.out.2.1, HL.out.2.2.1]; exact HR4.out.2.2.1.wide (by omega) (by omega)
  · unfold mkIP; rw [HL.out.1, HL.out.2.1, HL.out.2.2.1, HL.out.2.2.2]; exact HR4.out.2.2.2.wide (by omega) (by omega)
set_option maxRecDepth 100000 in
set_option maxHeartbeats 3200000 in
theorem heldK_Iter {fz : Bool} {lo hi : Nat} (ar : Int) (a : Option Addr) (n c : Nat) (rows : List (List Int)) (la : Option Addr) (ln lc : Nat) (lw : List Int) (ga : Option Addr) (gn gc : Nat) (gh : List Int) (pa : Option Addr) (pn pc : Nat) (ps : List Int) (k : Int) (w : World) (hI : IterA fz lo hi w ar a n c (mkIR k rows) la ln lc (mkIL k rows lw) ga gn gc (mkIH k rows lw gh) pa pn pc (mkIP k rows lw gh ps)) (hh : hi ≤ w.heap.size) (h0 : 0 ≤ k) (h1 : k ≤ 1048576) (hs : szIter rows lw gh ps ≤ 1048576) :
    Calls Try.prog 16 #[iterV ar a n c la ln lc ga gn gc pa pn pc, .int .i64 k] w (Leaves w (.int .i64 (k + (cntIter rows lw gh ps : Nat)))) := by
  have hl0 : rows.length = n := by have := hI.1.2.len; unfold mkIR at this; rwa [mkRows_len] at this
  have hl1 : lw.length = ln := by have := hI.2.1.len; unfold mkIL at this; rwa [marks_len] at this
  have hl2 : gh.length = gn := by have := hI.2.2.1.len; unfold mkIH at this; rwa [marks_len] at this
  have hl3 : ps.length = pn := by have := hI.2.2.2.len; unfold mkIP at this; rwa [marks_len] at this
  have hsz : rowsSz rows ≤ 1048576 ∧ lens rows n + ln + gn + pn ≤ 1048576 := by unfold szIter at hs; rw [hl1, hl2, hl3] at hs; refine ⟨by omega, ?_⟩; unfold rowsSz at hs; rw [hl0] at hs; omega
  have HE : Hid (k + (lens rows n : Int) + ln + gn + pn = k + (cntIter rows lw gh ps : Nat)) := hid (by unfold cntIter; rw [hl0, hl1, hl2, hl3]; omega)
  have r1 : IntsA fz lo hi w la ln lc (marks (k + (lens rows n : Int)) ln) := by have := hI.2.1; unfold mkIL at this; rwa [hl0, hl1] at this
  have r2 : IntsA fz lo hi w ga gn gc (marks (k + (lens rows n : Int) + ln) gn) := by have := hI.2.2.1; unfold mkIH at this; rwa [hl0, hl1, hl2] at this
  have r3 : IntsA fz lo hi w pa pn pc (marks (k + (lens rows n : Int) + ln + gn) pn) := by have := hI.2.2.2; unfold mkIP at this; rwa [hl0, hl1, hl2, hl3] at this
  have HR := hid (And.intro hI.1.2 (And.intro r1 (And.intro r2 r3))); clear hI r1 r2 r3
  have HSZ := hid hsz.1; have HL0 := hid hl0
  have hsz2 := hsz.2
  clear hsz hs hl0 hl1 hl2 hl3
  have hn0 : ¬ k + (lens rows n : Int) < 0 := by omega
  have hn1 : ¬ k + (lens rows n : Int) + ln < 0 := by omega
  have hn2 : ¬ k + (lens rows n : Int) + ln + gn < 0 := by omega
  have hn3 : ¬ k + (lens rows n : Int) + ln + gn + pn < 0 := by omega
  go_enter Try.func16, Try.ntmps16
  go_wp2_with fail
  refine (heldTrieS ar a n c rows k _ (SlA.be intsOK (B := w.heap.size) HR.out.1 (by repeat (first | with_reducible assumption | with_reducible exact Below.refl _ _ | with_reducible refine below_drewN ?_ _ | with_reducible refine Below.al ?_ (by first | with_reducible exact Nat.le_refl _ | omega | (simp; done) | (simp; omega) | exact Nat.le_refl _) _ | with_reducible refine Below.setCell ?_ (by first | with_reducible exact Nat.le_refl _ | omega | (simp; done) | (simp; omega) | exact Nat.le_refl _) _ | assumption | exact Below.refl _ _ | refine below_drewN ?_ _ | refine Below.al ?_ (by first | with_reducible exact Nat.le_refl _ | omega | (simp; done) | (simp; omega) | exact Nat.le_refl _) _ | refine Below.setCell ?_ (by first | with_reducible exact Nat.le_refl _ | omega | (simp; done) | (simp; omega) | exact Nat.le_refl _) _)) hh) (by first | with_reducible exact Nat.le_refl _ | omega | (simp; done) | (simp; omega) | exact Nat.le_refl _) h0 (by omega) HSZ.out HL0.out).mono ?_
  rintro e w1 ⟨rfl, hb1⟩
  have hz1 := hb1.size; simp at hz1
  have hlt1 : w.heap.size < w1.heap.size := by omega
  have c2 : w1.cell? ⟨w.heap.size, 2, none⟩ = some (.slice la ln lc) := (by rw [(bcell hb1).1 _ _ (by first | omega | (simp only [sz_alloc, sz_drewN, sz_drew1, sz_set]; omega))]; first | with_reducible assumption | with_reducible rfl | (simp (disch := (first | omega | (simp only [sz_alloc, sz_drewN, sz_drew1, sz_set]; omega))) only [calloc, falloc, cdrewN, cdrew1, fdrewN, fdrew1, cset_far, fset_any]; first | done | with_reducible assumption) | (go_simp; done) | (simp (disch := (first | omega | (simp only [sz_alloc, sz_drewN, sz_drew1, sz_set]; omega))) [calloc, falloc, cdrewN, cdrew1, fdrewN, fdrew1, cset_far]; first | done | with_reducible assumption))
  have c3 : w1.cell? ⟨w.heap.size, 3, none⟩ = some (.slice ga gn gc) := (by rw [(bcell hb1).1 _ _ (by first | omega | (simp only [sz_alloc, sz_drewN, sz_drew1, sz_set]; omega))]; first | with_reducible assumption | with_reducible rfl | (simp (disch := (first | omega | (simp only [sz_alloc, sz_drewN, sz_drew1, sz_set]; omega))) only [calloc, falloc, cdrewN, cdrew1, fdrewN, fdrew1, cset_far, fset_any]; first | done | with_reducible assumption) | (go_simp; done) | (simp (disch := (first | omega | (simp only [sz_alloc, sz_drewN, sz_drew1, sz_set]; omega))) [calloc, falloc, cdrewN, cdrew1, fdrewN, fdrew1, cset_far]; first | done | with_reducible assumption))
  have c4 : w1.cell? ⟨w.heap.size, 4, none⟩ = some (.slice pa pn pc) := (by rw [(bcell hb1).1 _ _ (by first | omega | (simp only [sz_alloc, sz_drewN, sz_drew1, sz_set]; omega))]; first | with_reducible assumption | with_reducible rfl | (simp (disch := (first | omega | (simp only [sz_alloc, sz_drewN, sz_drew1, sz_set]; omega))) only [calloc, falloc, cdrewN, cdrew1, fdrewN, fdrew1, cset_far, fset_any]; first | done | with_reducible assumption) | (go_simp; done) | (simp (disch := (first | omega | (simp only [sz_alloc, sz_drewN, sz_drew1, sz_set]; omega))) [calloc, falloc, cdrewN, cdrew1, fdrewN, fdrew1, cset_far]; first | done | with_reducible assumption))
  have hb2 : Below w.heap.size w w1 := Below.trans (by repeat (first | with_reducible assumption | with_reducible exact Below.refl _ _ | with_reducible refine below_drewN ?_ _ | with_reducible refine below_drew1 ?_ | with_reducible refine Below.al ?_ (by first | with_reducible exact Nat.le_refl _ | omega | (simp; done) | (simp; omega) | exact Nat.le_refl _) _ | with_reducible refine Below.setCell ?_ (by first | with_reducible exact Nat.le_refl _ | omega | (simp; done) | (simp; omega) | exact Nat.le_refl _) _ | assumption | exact Below.refl _ _ | refine below_drewN ?_ _ | refine below_drew1 ?_ | refine Below.al ?_ (by first | with_reducible exact Nat.le_refl _ | omega | (simp; done) | (simp; omega) | exact Nat.le_refl _) _ | refine Below.setCell ?_ (by first | with_reducible exact Nat.le_refl _ | omega | (simp; done) | (simp; omega) | exact Nat.le_refl _) _)) (hb1.mono (by first | with_reducible exact Nat.le_refl _ | omega | (simp; done) | (simp; omega) | exact Nat.le_refl _))
  have HB := hid hb2; clear hb1 hb2
  go_wp2_with fail
  refine (heldInts la ln lc (k + (lens rows n : Int)) _ (HR.out.2.1.keep (Keeps.of_below (B := w.heap.size) (by have hq := HB.out; exact (by repeat (first | with_reducible assumption | with_reducible exact Below.refl _ _ | with_reducible refine below_drewN ?_ _ | with_reducible refine below_drew1 ?_ | with_reducible refine Below.al ?_ (by first | with_reducible exact Nat.le_refl _ | omega | (simp; done) | (simp; omega) | exact Nat.le_refl _) _ | with_reducible refine Below.setCell ?_ (by first | with_reducible exact Nat.le_refl _ | omega | (simp; done) | (simp; omega) | exact Nat.le_refl _) _ | assumption | exact Below.refl _ _ | refine below_drewN ?_ _ | refine below_drew1 ?_ | refine Below.al ?_ (by first | with_reducible exact Nat.le_refl _ | omega | (simp; done) | (simp; omega) | exact Nat.le_refl _) _ | refine Below.setCell ?_ (by first | with_reducible exact Nat.le_refl _ | omega | (simp; done) | (simp; omega) | exact Nat.le_refl _) _))) hh)) (by omega) (by omega) (by omega)).mono ?_
  rintro e w2 ⟨rfl, m2, rfl⟩
  go_wp2_with fail
  refine (heldInts ga gn gc (k + (lens rows n : Int) + ln) _ (HR.out.2.2.1.keep (Keeps.of_below (B := w.heap.size) (by have hq := HB.out; exact (by repeat (first | with_reducible assumption | with_reducible exact Below.refl _ _ | with_reducible refine below_drewN ?_ _ | with_reducible refine below_drew1 ?_ | with_reducible refine Below.al ?_ (by first | with_reducible exact Nat.le_refl _ | omega | (simp; done) | (simp; omega) | exact Nat.le_refl _) _ | with_reducible refine Below.setCell ?_ (by first | with_reducible exact Nat.le_refl _ | omega | (simp; done) | (simp; omega) | exact Nat.le_refl _) _ | assumption | exact Below.refl _ _ | refine below_drewN ?_ _ | refine below_drew1 ?_ | refine Below.al ?_ (by first | with_reducible exact Nat.le_refl _ | omega | (simp; done) | (simp; omega) | exact Nat.le_refl _) _ | refine Below.setCell ?_ (by first | with_reducible exact Nat.le_refl _ | omega | (simp; done) | (simp; omega) | exact Nat.le_refl _) _))) hh)) (by omega) (by omega) (by omega)).mono ?_
  rintro e w3 ⟨rfl, m3, rfl⟩
  go_wp2_with fail
  refine (heldInts pa pn pc (k + (lens rows n : Int) + ln + gn) _ (HR.out.2.2.2.keep (Keeps.of_below (B := w.heap.size) (by have hq := HB.out; exact (by repeat (first | with_reducible assumption | with_reducible exact Below.refl _ _ | with_reducible refine below_drewN ?_ _ | with_reducible refine below_drew1 ?_ | with_reducible refine Below.al ?_ (by first | with_reducible exact Nat.le_refl _ | omega | (simp; done) | (simp; omega) | exact Nat.le_refl _) _ | with_reducible refine Below.setCell ?_ (by first | with_reducible exact Nat.le_refl _ | omega | (simp; done) | (simp; omega) | exact Nat.le_refl _) _ | assumption | exact Below.refl _ _ | refine below_drewN ?_ _ | refine below_drew1 ?_ | refine Below.al ?_ (by first | with_reducible exact Nat.le_refl _ | omega | (simp; done) | (simp; omega) | exact Nat.le_refl _) _ | refine Below.setCell ?_ (by first | with_reducible exact Nat.le_refl _ | omega | (simp; done) | (simp; omega) | exact Nat.le_refl _) _))) hh)) (by omega) (by omega) (by omega)).mono ?_
  rintro e w4 ⟨rfl, m4, rfl⟩
  go_wp2_with fail
  go_ret
  exact ⟨by rw [← HE.out]; rfl, by have hq := HB.out; exact (by repeat (first | with_reducible assumption | with_reducible exact Below.refl _ _ | with_reducible refine below_drewN ?_ _ | with_reducible refine below_drew1 ?_ | with_reducible refine Below.al ?_ (by first | with_reducible exact Nat.le_refl _ | omega | (simp; done) | (simp; omega) | exact Nat.le_refl _) _ | with_reducible refine Below.setCell ?_ (by first | with_reducible exact Nat.le_refl _ | omega | (simp; done) | (simp; omega) | exact Nat.le_refl _) _ | assumption | exact Below.refl _ _ | refine below_drewN ?_ _ | refine below_drew1 ?_ | refine Below.al ?_ (by first | with_reducible exact Nat.le_refl _ | omega | (simp; done) | (simp; omega) | exact Nat.le_refl _) _ | refine Below.setCell ?_ (by first | with_reducible exact Nat.le_refl _ | omega | (simp; done) | (simp; omega) | exact Nat.le_refl _) _))⟩
end Go.Proofs.Ythochdlbmaiclaa
