/- Walks: marking and finding marks in linear programs. -/
import Derived.Test.YtgannpmngkgejaaR16
namespace Go.Proofs.Ytgannpmngkgejaa
set_option linter.unusedSimpArgs false
set_option linter.unusedVariables false
open Go.RowKit
theorem RatsA.markedG {lo hi lo' hi' : Nat} {w w' : World} {a : Option Addr} {n c : Nat} {xs : List RatD} (h : RatsA true lo hi w a n c xs) (hm : MarkedG lo' hi' w w') : ∃ ys, RatsA true lo hi w' a n c ys := by
  by_cases hn : 0 < n
  · obtain ⟨b, off, rfl⟩ := ratsSome h hn
    have h0 := ratsAt h hn
    have each : ∀ i, i < n → ∃ y : RatD, I64 y.num ∧ I64 y.den ∧ w'.cell? ⟨b, off + i * 2, none⟩ = some (.int .i64 y.num) ∧ w'.cell? ⟨b, off + i * 2 + 1, none⟩ = some (.int .i64 y.den) := by
      intro i hi
      obtain ⟨_, _, g1, g2, g3, g4, _⟩ := ratsAt h hi
      obtain ⟨v1, e1, q1⟩ := hm.cell _ _ g3
      obtain ⟨v2, e2, q2⟩ := hm.cell _ _ g4
      have f1 : ∃ x, v1 = .int .i64 x ∧ I64 x := by
        rcases q1 with rfl | ⟨_, y, _, rfl, hy⟩
        · exact ⟨_, rfl, g1⟩
        · exact ⟨_, rfl, hy⟩
      have f2 : ∃ x, v2 = .int .i64 x ∧ I64 x := by
        rcases q2 with rfl | ⟨_, y, _, rfl, hy⟩
        · exact ⟨_, rfl, g2⟩
        · exact ⟨_, rfl, hy⟩
      obtain ⟨x1, rfl, y1⟩ := f1
      obtain ⟨x2, rfl, y2⟩ := f2
      exact ⟨⟨x1, x2⟩, y1, y2, e1, e2⟩
    haveI : Inhabited RatD := ⟨⟨0, 0⟩⟩
    obtain ⟨y, hy⟩ := Deep.choose_lt each
    refine ⟨(List.range n).map y, ratsMk (by simp) h.2.1 h.2.2.1 h0.1 h0.2.1 fun i hi => ?_⟩
    have hq : qx ((List.range n).map y) i = y i := by simp [qx, hi]
    obtain ⟨_, _, _, _, g3, g4, g5⟩ := ratsAt h hi
    obtain ⟨e1, e2, e3, e4⟩ := hy i hi
    rw [hq]
    exact ⟨e1, e2, e3, e4, fun hf => by rw [hm.frz _ (by rw [g3]; exact fun h => nomatch h), hm.frz _ (by rw [g4]; exact fun h => nomatch h)]; exact g5 hf⟩
  · exact ⟨xs, h.1, h.2.1, h.2.2.1, fun h => absurd h hn, h.2.2.2.2⟩
theorem cntLP_le (xs : List (List RatD)) (bs cs : List RatD) : cntLP xs bs cs ≤ szLP xs bs cs * 2 := by unfold cntLP szLP matSz; omega
set_option maxHeartbeats 1600000 in
theorem markK_LP {lo hi : Nat} (a : Option Addr) (n c : Nat) (xs : List (List RatD)) (ba : Option Addr) (bn bc : Nat) (bs : List RatD) (ca : Option Addr) (cn cc : Nat) (cs : List RatD) (k : Int) (w : World)
    (hI : LPA true lo hi w a n c xs ba bn bc bs ca cn cc cs) (hh : hi ≤ w.heap.size) (h0 : 0 ≤ k) (h1 : k ≤ 1048576) (hs : szLP xs bs cs ≤ 1048576) :
    Calls Try.prog 11 #[lpV a n c ba bn bc ca cn cc, .int .i64 k] w (GivesMG lo hi w (k + (cntLP xs bs cs : Nat))) := by
  have hl1 := hI.1.len; have hl2 := hI.2.1.len; have hl3 := hI.2.2.len
  have hsz : matSz xs ≤ 1048576 ∧ mlens xs n + bn + cn ≤ 1048576 := by unfold szLP at hs; rw [hl2, hl3] at hs; refine ⟨by omega, ?_⟩; unfold matSz at hs; rw [hl1] at hs; omega
  have HE : Hid (k + 2 * (mlens xs n : Int) + 2 * bn + 2 * cn = k + (cntLP xs bs cs : Nat)) := hid (by unfold cntLP; rw [hl1, hl2, hl3]; omega)
  have HSZ := hid hsz.1
  have hsz2 := hsz.2
  clear hsz hs hl1 hl2 hl3
  have HI := hid hI; clear hI
  go_enter Try.func11, Try.ntmps11
  go_wp2_with fail
  refine (markMat a n c xs k _ (beMat (B := w.heap.size) HI.out.1 (by repeat (first | assumption | exact Below.refl _ _ | refine below_drewN ?_ _ | refine Below.al ?_ (by first | exact Nat.le_refl _ | omega | (simp; done) | (simp; omega)) _ | refine Below.setCell ?_ (by first | exact Nat.le_refl _ | omega | (simp; done) | (simp; omega)) _)) hh) h0 (by omega) HSZ.out).mono ?_
  rintro e w1 ⟨rfl, hm1⟩
  have hmg1 : MarkedG lo hi w w1 := (MarkedG.of_below (by repeat (first | assumption | exact Below.refl _ _ | refine below_drewN ?_ _ | refine Below.al ?_ (by first | exact Nat.le_refl _ | omega | (simp; done) | (simp; omega)) _ | refine Below.setCell ?_ (by first | exact Nat.le_refl _ | omega | (simp; done) | (simp; omega)) _))).trans (.of_marked hm1)
  have hz1 : w.heap.size < w1.heap.size := by rw [hm1.size]; simp
  have q1 : w1.cell? ⟨w.heap.size, 1, none⟩ = some (.slice ba bn bc) := by rw [boxG (.of_marked hm1) _ (by simp) (by omega)]; simp
  have q2 : w1.cell? ⟨w.heap.size, 2, none⟩ = some (.slice ca cn cc) := by rw [boxG (.of_marked hm1) _ (by simp) (by omega)]; simp
  obtain ⟨ys, hy⟩ := RatsA.markedG HI.out.2.1 hmg1
  have HM1 := hid hmg1; have HY := hid hy; clear hmg1 hy hm1
  go_wp2_with fail
  refine (markRats ba bn bc ys (k + 2 * (mlens xs n : Int)) _ HY.out (by omega) (by omega) (by omega)).mono ?_
  rintro e w2 ⟨rfl, hm2, _⟩
  have q2' : w2.cell? ⟨w.heap.size, 2, none⟩ = some (.slice ca cn cc) := by rw [boxG (.of_marked hm2) _ hz1 (by omega)]; exact q2
  have hmg2 := HM1.out.trans (.of_marked hm2)
  obtain ⟨zs, hz⟩ := RatsA.markedG HI.out.2.2 hmg2
  have HM2 := hid hmg2; have HZ := hid hz; clear hmg2 hz hm2 q1 q2
  go_wp2_with fail
  refine (markRats ca cn cc zs (k + 2 * (mlens xs n : Int) + 2 * bn) _ HZ.out (by omega) (by omega) (by omega)).mono ?_
  rintro e w3 ⟨rfl, hm3, _⟩
  have HM3 := hid (HM2.out.trans (.of_marked hm3)); clear hm3
  go_wp2_with fail
  go_ret
  exact ⟨by rw [← HE.out]; rfl, HM3.out⟩
/-- the marked data of a result -/
def mkA (k : Int) (xs : List (List RatD)) : List (List RatD) := mkMat k xs
def mkB (k : Int) (xs : List (List RatD)) (bs : List RatD) : List RatD := mkRats (k + 2 * mlens xs xs.length) bs.length
def mkC (k : Int) (xs : List (List RatD)) (bs cs : List RatD) : List RatD := mkRats (k + 2 * mlens xs xs.length + 2 * bs.length) cs.length
def GvMarkLP (lo hi : Nat) (w : World) (k : Int) (a : Option Addr) (n c : Nat) (xs : List (List RatD)) (ba : Option Addr) (bn bc : Nat) (bs : List RatD) (ca : Option Addr) (cn cc : Nat) (cs : List RatD) (e : Ending) (w' : World) : Prop :=
  e = .returned (.int .i64 (k + (cntLP xs bs cs : Nat))) ∧ MarkedG lo hi w w' ∧ LPA true lo hi w' a n c (mkA k xs) ba bn bc (mkB k xs bs) ca cn cc (mkC k xs bs cs)
set_option maxHeartbeats 1600000 in
theorem resK_LP {lo hi : Nat} (a : Option Addr) (n c : Nat) (xs : List (List RatD)) (ba : Option Addr) (bn bc : Nat) (bs : List RatD) (ca : Option Addr) (cn cc : Nat) (cs : List RatD) (k : Int) (w : World)
    (hI : LPS lo hi w a n c xs ba bn bc bs ca cn cc cs) (hh : hi ≤ w.heap.size) (h0 : 0 ≤ k) (h1 : k ≤ 1048576) (hs : szLP xs bs cs ≤ 1048576) :
    Calls Try.prog 11 #[lpV a n c ba bn bc ca cn cc, .int .i64 k] w (GvMarkLP lo hi w k a n c xs ba bn bc bs ca cn cc cs) := by
  obtain ⟨s0, t0, s1, t1, s2, t2, p0, p1, p2, hb, hd1, hd2, hd3⟩ := hI
  have hl1 := p0.len; have hl2 := p1.len; have hl3 := p2.len
  have hsz : matSz xs ≤ 1048576 ∧ mlens xs n + bn + cn ≤ 1048576 := by unfold szLP at hs; rw [hl2, hl3] at hs; refine ⟨by omega, ?_⟩; unfold matSz at hs; rw [hl1] at hs; omega
  have HE : Hid (k + 2 * (mlens xs n : Int) + 2 * bn + 2 * cn = k + (cntLP xs bs cs : Nat)) := hid (by unfold cntLP; rw [hl1, hl2, hl3]; omega)
  have HL := hid (And.intro hl1 (And.intro hl2 hl3))
  have HSZ := hid hsz.1
  have hsz2 := hsz.2
  clear hsz hs hl1 hl2 hl3
  have HP := hid (And.intro p0 (And.intro p1 p2)); clear p0 p1 p2
  go_enter Try.func11, Try.ntmps11
  go_wp2_with fail
  refine (markMatS a n c xs k _ (SepA.keep ratsQOK HP.out.1 (Keeps.al (Keeps.refl _ _ _) (by omega) _)) h0 (by omega) HSZ.out).mono ?_
  rintro e w1 ⟨rfl, hm1, r0⟩
  have hz1 : w.heap.size < w1.heap.size := by rw [hm1.size]; simp
  have q1 : w1.cell? ⟨w.heap.size, 1, none⟩ = some (.slice ba bn bc) := by rw [boxG (.of_marked hm1) _ (by simp) (by omega)]; simp
  have q2 : w1.cell? ⟨w.heap.size, 2, none⟩ = some (.slice ca cn cc) := by rw [boxG (.of_marked hm1) _ (by simp) (by omega)]; simp
  have r1 : RatsA true s1 t1 w1 ba bn bc bs := kpRats (kpRats HP.out.2.1 (Keeps.al (Keeps.refl _ _ _) (by omega) _)) (hm1.keeps (by omega))
  have r2 : RatsA true s2 t2 w1 ca cn cc cs := kpRats (kpRats HP.out.2.2 (Keeps.al (Keeps.refl _ _ _) (by omega) _)) (hm1.keeps (by omega))
  have HM1 := hid ((MarkedG.of_below (lo := lo) (hi := hi) (w := w) (by repeat (first | assumption | exact Below.refl _ _ | refine below_drewN ?_ _ | refine Below.al ?_ (by first | exact Nat.le_refl _ | omega | (simp; done) | (simp; omega)) _ | refine Below.setCell ?_ (by first | exact Nat.le_refl _ | omega | (simp; done) | (simp; omega)) _))).trans (.of_marked (hm1.wide (by omega) (by omega))))
  have HR := hid (And.intro r0 (And.intro r1 r2)); clear hm1 r0 r1 r2
  go_wp2_with fail
  refine (markRats ba bn bc bs (k + 2 * (mlens xs n : Int)) _ HR.out.2.1 (by omega) (by omega) (by omega)).mono ?_
  rintro e w2 ⟨rfl, hm2, r1⟩
  have q2' : w2.cell? ⟨w.heap.size, 2, none⟩ = some (.slice ca cn cc) := by rw [boxG (.of_marked hm2) _ hz1 (by omega)]; exact q2
  have r0 : MatS s0 t0 w2 a n c (mkMat k xs) := SepA.keep ratsQOK HR.out.1 (hm2.keeps (by omega))
  have r2 : RatsA true s2 t2 w2 ca cn cc cs := kpRats HR.out.2.2 (hm2.keeps (by omega))
  have HM2 := hid (HM1.out.trans (.of_marked (hm2.wide (by omega) (by omega))))
  have HR2 := hid (And.intro r0 (And.intro r1 r2)); clear hm2 r0 r1 r2 q1 q2
  go_wp2_with fail
  refine (markRats ca cn cc cs (k + 2 * (mlens xs n : Int) + 2 * bn) _ HR2.out.2.2 (by omega) (by omega) (by omega)).mono ?_
  rintro e w3 ⟨rfl, hm3, r2⟩
  have r0 : MatS s0 t0 w3 a n c (mkMat k xs) := SepA.keep ratsQOK HR2.out.1 (hm3.keeps (by omega))
  have r1 := kpRats HR2.out.2.1 (hm3.keeps (by omega))
  have HM3 := hid (HM2.out.trans (.of_marked (hm3.wide (by omega) (by omega))))
  have HR3 := hid (And.intro r0 (And.intro r1 r2)); clear hm3 r0 r1 r2
  go_wp2_with fail
  go_ret
  refine ⟨by rw [← HE.out]; rfl, HM3.out, hgMat (wdMat HR3.out.1.mat (by omega)) (by omega), ?_, ?_⟩
  · unfold mkB; rw [HL.out.1, HL.out.2.1]; exact hgRats (wdRats HR3.out.2.1 (by omega)) (by omega)
  · unfold mkC; rw [HL.out.1, HL.out.2.1, HL.out.2.2]; exact hgRats (wdRats HR3.out.2.2 (by omega)) (by omega)
set_option maxHeartbeats 1600000 in
theorem heldK_LP {fz : Bool} {lo hi : Nat} (a : Option Addr) (n c : Nat) (xs : List (List RatD)) (ba : Option Addr) (bn bc : Nat) (bs : List RatD) (ca : Option Addr) (cn cc : Nat) (cs : List RatD) (k : Int) (w : World)
    (hI : LPA fz lo hi w a n c (mkA k xs) ba bn bc (mkB k xs bs) ca cn cc (mkC k xs bs cs)) (hh : hi ≤ w.heap.size) (h0 : 0 ≤ k) (h1 : k ≤ 1048576) (hs : szLP xs bs cs ≤ 1048576) :
    Calls Try.prog 12 #[lpV a n c ba bn bc ca cn cc, .int .i64 k] w (Leaves w (.int .i64 (k + (cntLP xs bs cs : Nat)))) := by
  have hl1 : xs.length = n := by have := hI.1.len; unfold mkA at this; rwa [mkMat_len] at this
  have hl2 : bs.length = bn := by have := hI.2.1.len; unfold mkB at this; rwa [mkRats_len] at this
  have hl3 : cs.length = cn := by have := hI.2.2.len; unfold mkC at this; rwa [mkRats_len] at this
  have hsz : matSz xs ≤ 1048576 ∧ mlens xs n + bn + cn ≤ 1048576 := by unfold szLP at hs; rw [hl2, hl3] at hs; refine ⟨by omega, ?_⟩; unfold matSz at hs; rw [hl1] at hs; omega
  have HE : Hid (k + 2 * (mlens xs n : Int) + 2 * bn + 2 * cn = k + (cntLP xs bs cs : Nat)) := hid (by unfold cntLP; rw [hl1, hl2, hl3]; omega)
  have r1 : RatsA fz lo hi w ba bn bc (mkRats (k + 2 * (mlens xs n : Int)) bn) := by have := hI.2.1; unfold mkB at this; rwa [hl1, hl2] at this
  have r2 : RatsA fz lo hi w ca cn cc (mkRats (k + 2 * (mlens xs n : Int) + 2 * bn) cn) := by have := hI.2.2; unfold mkC at this; rwa [hl1, hl2, hl3] at this
  have HR := hid (And.intro hI.1 (And.intro r1 r2)); clear hI r1 r2
  have HSZ := hid hsz.1
  have hsz2 := hsz.2
  clear hsz hs hl1 hl2 hl3
  have hn1 : ¬ k + 2 * (mlens xs n : Int) < 0 := by omega
  have hn2 : ¬ k + 2 * (mlens xs n : Int) + 2 * (bn : Int) < 0 := by omega
  have hn3 : ¬ k + 2 * (mlens xs n : Int) + 2 * (bn : Int) + 2 * (cn : Int) < 0 := by omega
  go_enter Try.func12, Try.ntmps12
  go_wp2_with fail
  refine (heldMat a n c xs k _ (beMat (B := w.heap.size) HR.out.1 (by repeat (first | assumption | exact Below.refl _ _ | refine below_drewN ?_ _ | refine Below.al ?_ (by first | exact Nat.le_refl _ | omega | (simp; done) | (simp; omega)) _ | refine Below.setCell ?_ (by first | exact Nat.le_refl _ | omega | (simp; done) | (simp; omega)) _)) hh) h0 (by omega) HSZ.out).mono ?_
  rintro e w1 ⟨rfl, m1, rfl⟩
  go_wp2_with fail
  refine (heldRats ba bn bc (k + 2 * (mlens xs n : Int)) _ (beRats (B := w.heap.size) HR.out.2.1 (by repeat (first | assumption | exact Below.refl _ _ | refine below_drewN ?_ _ | refine below_drew1 ?_ | refine Below.al ?_ (by first | exact Nat.le_refl _ | omega | (simp; done) | (simp; omega)) _ | refine Below.setCell ?_ (by first | exact Nat.le_refl _ | omega | (simp; done) | (simp; omega)) _)) hh) (by omega) (by omega) (by omega)).mono ?_
  rintro e w2 ⟨rfl, m2, rfl⟩
  go_wp2_with fail
  refine (heldRats ca cn cc (k + 2 * (mlens xs n : Int) + 2 * bn) _ (beRats (B := w.heap.size) HR.out.2.2 (by repeat (first | assumption | exact Below.refl _ _ | refine below_drewN ?_ _ | refine below_drew1 ?_ | refine Below.al ?_ (by first | exact Nat.le_refl _ | omega | (simp; done) | (simp; omega)) _ | refine Below.setCell ?_ (by first | exact Nat.le_refl _ | omega | (simp; done) | (simp; omega)) _)) hh) (by omega) (by omega) (by omega)).mono ?_
  rintro e w3 ⟨rfl, m3, rfl⟩
  go_wp2_with fail
  go_ret
  exact ⟨by rw [← HE.out]; rfl, (by repeat (first | assumption | exact Below.refl _ _ | refine below_drewN ?_ _ | refine below_drew1 ?_ | refine Below.al ?_ (by first | exact Nat.le_refl _ | omega | (simp; done) | (simp; omega)) _ | refine Below.setCell ?_ (by first | exact Nat.le_refl _ | omega | (simp; done) | (simp; omega)) _))⟩
end Go.Proofs.Ytgannpmngkgejaa
