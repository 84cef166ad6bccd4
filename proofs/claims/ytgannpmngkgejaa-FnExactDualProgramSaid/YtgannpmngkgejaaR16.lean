/- Walks: the dual program. -/
import Derived.Test.YtgannpmngkgejaaApp0R
import Derived.Test.YtgannpmngkgejaaR15b
import Derived.Test.YtgannpmngkgejaaR12
namespace Go.Proofs.Ytgannpmngkgejaa
set_option linter.unusedSimpArgs false
set_option linter.unusedVariables false
open Go.RowKit
/-- a linear program whose parts lie apart -/
def LPS (lo hi : Nat) (w : World) (a : Option Addr) (n c : Nat) (xs : List (List RatD)) (ba : Option Addr) (bn bc : Nat) (bs : List RatD) (ca : Option Addr) (cn cc : Nat) (cs : List RatD) : Prop :=
  ∃ s0 t0 s1 t1 s2 t2, MatS s0 t0 w a n c xs ∧ RatsA true s1 t1 w ba bn bc bs ∧ RatsA true s2 t2 w ca cn cc cs ∧ (lo ≤ s0 ∧ t0 ≤ hi ∧ lo ≤ s1 ∧ t1 ≤ hi ∧ lo ≤ s2 ∧ t2 ≤ hi) ∧ (t0 ≤ s1 ∨ t1 ≤ s0) ∧ (t0 ≤ s2 ∨ t2 ≤ s0) ∧ (t1 ≤ s2 ∨ t2 ≤ s1)
theorem LPS.lp {lo hi : Nat} {w : World} {a : Option Addr} {n c : Nat} {xs : List (List RatD)} {ba : Option Addr} {bn bc : Nat} {bs : List RatD} {ca : Option Addr} {cn cc : Nat} {cs : List RatD} (h : LPS lo hi w a n c xs ba bn bc bs ca cn cc cs) : LPA true lo hi w a n c xs ba bn bc bs ca cn cc cs := by
  obtain ⟨s0, t0, s1, t1, s2, t2, h0, h1, h2, h3, _⟩ := h
  exact ⟨hgMat (wdMat h0.mat h3.1) h3.2.1, hgRats (wdRats h1 h3.2.2.1) h3.2.2.2.1, hgRats (wdRats h2 h3.2.2.2.2.1) h3.2.2.2.2.2⟩
def GvLPB (w : World) (xs : List (List RatD)) (bs cs : List RatD) (ok : Bool) (e : Ending) (w' : World) : Prop :=
  ∃ a n c ba bn bc ca cn cc, e = .returned (.tuple #[lpV a n c ba bn bc ca cn cc, .bool ok]) ∧ LPS w.heap.size w'.heap.size w' a n c xs ba bn bc bs ca cn cc cs ∧ Below w.heap.size w w'
/-- what the dual program holds -/
def dualA (xs : List (List RatD)) (bs cs : List RatD) : List (List RatD) := if lpOK xs bs cs = true then trTo xs cs.length else []
def dualB (xs : List (List RatD)) (bs cs : List RatD) : List RatD := if lpOK xs bs cs = true then cs else []
def dualC (xs : List (List RatD)) (bs cs : List RatD) : List RatD := if lpOK xs bs cs = true then bs else []
theorem lp_mat {xs : List (List RatD)} {bs cs : List RatD} (h : lpOK xs bs cs = true) : matB xs cs.length = true := by simp only [lpOK, Bool.and_eq_true] at h; exact h.2.2.2.2.2
theorem Below.mat {w w' : World} {B : Nat} (h : Below B w w') (hB : B ≤ w.heap.size) : Keeps 0 B w w' := fun k _ hk => h.block k hk
set_option maxRecDepth 100000 in
set_option maxHeartbeats 12800000 in
theorem specDual {fz : Bool} {lo hi : Nat} (a : Option Addr) (n c : Nat) (xs : List (List RatD)) (ba : Option Addr) (bn bc : Nat) (bs : List RatD) (ca : Option Addr) (cn cc : Nat) (cs : List RatD) (w : World)
    (hI : LPA fz lo hi w a n c xs ba bn bc bs ca cn cc cs) (hh : hi ≤ w.heap.size) :
    Calls Try.prog 7 #[lpV a n c ba bn bc ca cn cc] w (GvLPB w (dualA xs bs cs) (dualB xs bs cs) (dualC xs bs cs) (lpOK xs bs cs)) := by
  have hl1 := hI.1.len; have hl2 := hI.2.1.len; have hl3 := hI.2.2.len
  have HLL := hid (And.intro hl1 (And.intro hl2 hl3)); clear hl1 hl2 hl3
  have HI := hid hI; clear hI
  obtain ⟨k1, hk1⟩ : ∃ k, lpOK xs bs cs = k := ⟨_, rfl⟩
  have H1 := hid hk1
  cases k1 with
  | false =>
    clear hk1
    go_enter Try.func7, Try.ntmps7
    go_wp2_with fail
    refine (specValidLP a n c xs ba bn bc bs ca cn cc cs _ (beLP (B := w.heap.size) HI.out (by repeat (first | assumption | exact Below.refl _ _ | refine below_drewN ?_ _ | refine Below.al ?_ (by first | exact Nat.le_refl _ | omega | (simp; done) | (simp; omega)) _ | refine Below.setCell ?_ (by first | exact Nat.le_refl _ | omega | (simp; done) | (simp; omega)) _)) hh) (by first | exact Nat.le_refl _ | omega | (simp; done) | (simp; omega))).mono ?_
    rintro e w1 ⟨rfl, hb1⟩
    rw [H1.out]
    have hz := hb1.size
    simp at hz
    have q0 : w1.cell? ⟨w.heap.size + 1, 0, none⟩ = some (.slice none 0 0) := (by rw [(bcell hb1).1 _ _ (by first | omega | (simp only [sz_alloc, sz_drewN, sz_drew1, sz_set]; omega))]; first | assumption | rfl | (simp (disch := (first | omega | (simp only [sz_alloc, sz_drewN, sz_drew1, sz_set]; omega))) only [calloc, falloc, cdrewN, cdrew1, fdrewN, fdrew1, cset_far, fset_any]; first | done | assumption) | (go_simp; done) | (simp (disch := (first | omega | (simp only [sz_alloc, sz_drewN, sz_drew1, sz_set]; omega))) [calloc, falloc, cdrewN, cdrew1, fdrewN, fdrew1, cset_far]; first | done | assumption))
    have q1 : w1.cell? ⟨w.heap.size + 1, 1, none⟩ = some (.slice none 0 0) := (by rw [(bcell hb1).1 _ _ (by first | omega | (simp only [sz_alloc, sz_drewN, sz_drew1, sz_set]; omega))]; first | assumption | rfl | (simp (disch := (first | omega | (simp only [sz_alloc, sz_drewN, sz_drew1, sz_set]; omega))) only [calloc, falloc, cdrewN, cdrew1, fdrewN, fdrew1, cset_far, fset_any]; first | done | assumption) | (go_simp; done) | (simp (disch := (first | omega | (simp only [sz_alloc, sz_drewN, sz_drew1, sz_set]; omega))) [calloc, falloc, cdrewN, cdrew1, fdrewN, fdrew1, cset_far]; first | done | assumption))
    have q2 : w1.cell? ⟨w.heap.size + 1, 2, none⟩ = some (.slice none 0 0) := (by rw [(bcell hb1).1 _ _ (by first | omega | (simp only [sz_alloc, sz_drewN, sz_drew1, sz_set]; omega))]; first | assumption | rfl | (simp (disch := (first | omega | (simp only [sz_alloc, sz_drewN, sz_drew1, sz_set]; omega))) only [calloc, falloc, cdrewN, cdrew1, fdrewN, fdrew1, cset_far, fset_any]; first | done | assumption) | (go_simp; done) | (simp (disch := (first | omega | (simp only [sz_alloc, sz_drewN, sz_drew1, sz_set]; omega))) [calloc, falloc, cdrewN, cdrew1, fdrewN, fdrew1, cset_far]; first | done | assumption))
    have f0 : w1.frozen? ⟨w.heap.size + 1, 0, none⟩ = false := (by rw [(bcell hb1).2 _ _ (by first | omega | (simp only [sz_alloc, sz_drewN, sz_drew1, sz_set]; omega))]; first | assumption | rfl | (simp (disch := (first | omega | (simp only [sz_alloc, sz_drewN, sz_drew1, sz_set]; omega))) only [calloc, falloc, cdrewN, cdrew1, fdrewN, fdrew1, cset_far, fset_any]; first | done | assumption) | (go_simp; done) | (simp (disch := (first | omega | (simp only [sz_alloc, sz_drewN, sz_drew1, sz_set]; omega))) [calloc, falloc, cdrewN, cdrew1, fdrewN, fdrew1, cset_far]; first | done | assumption))
    have f1 : w1.frozen? ⟨w.heap.size + 1, 1, none⟩ = false := (by rw [(bcell hb1).2 _ _ (by first | omega | (simp only [sz_alloc, sz_drewN, sz_drew1, sz_set]; omega))]; first | assumption | rfl | (simp (disch := (first | omega | (simp only [sz_alloc, sz_drewN, sz_drew1, sz_set]; omega))) only [calloc, falloc, cdrewN, cdrew1, fdrewN, fdrew1, cset_far, fset_any]; first | done | assumption) | (go_simp; done) | (simp (disch := (first | omega | (simp only [sz_alloc, sz_drewN, sz_drew1, sz_set]; omega))) [calloc, falloc, cdrewN, cdrew1, fdrewN, fdrew1, cset_far]; first | done | assumption))
    have f2 : w1.frozen? ⟨w.heap.size + 1, 2, none⟩ = false := (by rw [(bcell hb1).2 _ _ (by first | omega | (simp only [sz_alloc, sz_drewN, sz_drew1, sz_set]; omega))]; first | assumption | rfl | (simp (disch := (first | omega | (simp only [sz_alloc, sz_drewN, sz_drew1, sz_set]; omega))) only [calloc, falloc, cdrewN, cdrew1, fdrewN, fdrew1, cset_far, fset_any]; first | done | assumption) | (go_simp; done) | (simp (disch := (first | omega | (simp only [sz_alloc, sz_drewN, sz_drew1, sz_set]; omega))) [calloc, falloc, cdrewN, cdrew1, fdrewN, fdrew1, cset_far]; first | done | assumption))
    have hb2 : Below w.heap.size w w1 := Below.trans (by repeat (first | assumption | exact Below.refl _ _ | refine below_drewN ?_ _ | refine below_drew1 ?_ | refine Below.al ?_ (by first | exact Nat.le_refl _ | omega | (simp; done) | (simp; omega)) _ | refine Below.setCell ?_ (by first | exact Nat.le_refl _ | omega | (simp; done) | (simp; omega)) _)) (hb1.mono (by first | exact Nat.le_refl _ | omega | (simp; done) | (simp; omega)))
    have HB := hid hb2; clear hb1 hb2
    go_wp2_with fail
    refine bodyPost_ret (v := .tuple #[lpV none 0 0 none 0 0 none 0 0, .bool false]) (by simp [results, Try.results7, go_sem, q0, q1, q2]) rfl ⟨_, _, _, _, _, _, _, _, _, by rw [H1.out], ?_, ?_⟩
    · refine ⟨w.heap.size, w.heap.size, w.heap.size, w.heap.size, w.heap.size, w.heap.size, ?_, ?_, ?_, ?_, ?_⟩
      · simp only [dualA, H1.out]; exact ⟨rfl, Nat.le_refl _, by simp [maxLen], fun h => by omega, fun _ => rfl⟩
      · simp only [dualB, H1.out]; exact ⟨rfl, Nat.le_refl _, by simp [maxLen], fun h => by omega, fun _ => rfl⟩
      · simp only [dualC, H1.out]; exact ⟨rfl, Nat.le_refl _, by simp [maxLen], fun h => by omega, fun _ => rfl⟩
      · simp only [sz_set]; omega
      · omega
    · have hq := HB.out; exact (by repeat (first | assumption | exact Below.refl _ _ | refine below_drewN ?_ _ | refine below_drew1 ?_ | refine Below.al ?_ (by first | exact Nat.le_refl _ | omega | (simp; done) | (simp; omega)) _ | refine Below.setCell ?_ (by first | exact Nat.le_refl _ | omega | (simp; done) | (simp; omega)) _))
  | true =>
    have hlen := lp_len hk1
    have hn5 : n ≤ 5 ∧ bn ≤ 5 ∧ cn ≤ 5 ∧ 0 < n := by have := HLL.out; omega
    have HMT := hid (lp_mat hk1)
    clear hlen hk1
    go_enter Try.func7, Try.ntmps7
    go_wp2_with fail
    refine (specValidLP a n c xs ba bn bc bs ca cn cc cs _ (beLP (B := w.heap.size) HI.out (by repeat (first | assumption | exact Below.refl _ _ | refine below_drewN ?_ _ | refine Below.al ?_ (by first | exact Nat.le_refl _ | omega | (simp; done) | (simp; omega)) _ | refine Below.setCell ?_ (by first | exact Nat.le_refl _ | omega | (simp; done) | (simp; omega)) _)) hh) (by first | exact Nat.le_refl _ | omega | (simp; done) | (simp; omega))).mono ?_
    rintro e w1 ⟨rfl, hb1⟩
    rw [H1.out]
    have hz := hb1.size
    simp at hz
    have hlt1 : w.heap.size < w1.heap.size := by omega
    have hlt1' : w.heap.size + 1 < w1.heap.size := by omega
    have b0 : w1.cell? ⟨w.heap.size, 0, none⟩ = some (.slice a n c) := (by rw [(bcell hb1).1 _ _ (by first | omega | (simp only [sz_alloc, sz_drewN, sz_drew1, sz_set]; omega))]; first | assumption | rfl | (simp (disch := (first | omega | (simp only [sz_alloc, sz_drewN, sz_drew1, sz_set]; omega))) only [calloc, falloc, cdrewN, cdrew1, fdrewN, fdrew1, cset_far, fset_any]; first | done | assumption) | (go_simp; done) | (simp (disch := (first | omega | (simp only [sz_alloc, sz_drewN, sz_drew1, sz_set]; omega))) [calloc, falloc, cdrewN, cdrew1, fdrewN, fdrew1, cset_far]; first | done | assumption))
    have b1 : w1.cell? ⟨w.heap.size, 1, none⟩ = some (.slice ba bn bc) := (by rw [(bcell hb1).1 _ _ (by first | omega | (simp only [sz_alloc, sz_drewN, sz_drew1, sz_set]; omega))]; first | assumption | rfl | (simp (disch := (first | omega | (simp only [sz_alloc, sz_drewN, sz_drew1, sz_set]; omega))) only [calloc, falloc, cdrewN, cdrew1, fdrewN, fdrew1, cset_far, fset_any]; first | done | assumption) | (go_simp; done) | (simp (disch := (first | omega | (simp only [sz_alloc, sz_drewN, sz_drew1, sz_set]; omega))) [calloc, falloc, cdrewN, cdrew1, fdrewN, fdrew1, cset_far]; first | done | assumption))
    have b2 : w1.cell? ⟨w.heap.size, 2, none⟩ = some (.slice ca cn cc) := (by rw [(bcell hb1).1 _ _ (by first | omega | (simp only [sz_alloc, sz_drewN, sz_drew1, sz_set]; omega))]; first | assumption | rfl | (simp (disch := (first | omega | (simp only [sz_alloc, sz_drewN, sz_drew1, sz_set]; omega))) only [calloc, falloc, cdrewN, cdrew1, fdrewN, fdrew1, cset_far, fset_any]; first | done | assumption) | (go_simp; done) | (simp (disch := (first | omega | (simp only [sz_alloc, sz_drewN, sz_drew1, sz_set]; omega))) [calloc, falloc, cdrewN, cdrew1, fdrewN, fdrew1, cset_far]; first | done | assumption))
    have q0 : w1.cell? ⟨w.heap.size + 1, 0, none⟩ = some (.slice none 0 0) := (by rw [(bcell hb1).1 _ _ (by first | omega | (simp only [sz_alloc, sz_drewN, sz_drew1, sz_set]; omega))]; first | assumption | rfl | (simp (disch := (first | omega | (simp only [sz_alloc, sz_drewN, sz_drew1, sz_set]; omega))) only [calloc, falloc, cdrewN, cdrew1, fdrewN, fdrew1, cset_far, fset_any]; first | done | assumption) | (go_simp; done) | (simp (disch := (first | omega | (simp only [sz_alloc, sz_drewN, sz_drew1, sz_set]; omega))) [calloc, falloc, cdrewN, cdrew1, fdrewN, fdrew1, cset_far]; first | done | assumption))
    have q1 : w1.cell? ⟨w.heap.size + 1, 1, none⟩ = some (.slice none 0 0) := (by rw [(bcell hb1).1 _ _ (by first | omega | (simp only [sz_alloc, sz_drewN, sz_drew1, sz_set]; omega))]; first | assumption | rfl | (simp (disch := (first | omega | (simp only [sz_alloc, sz_drewN, sz_drew1, sz_set]; omega))) only [calloc, falloc, cdrewN, cdrew1, fdrewN, fdrew1, cset_far, fset_any]; first | done | assumption) | (go_simp; done) | (simp (disch := (first | omega | (simp only [sz_alloc, sz_drewN, sz_drew1, sz_set]; omega))) [calloc, falloc, cdrewN, cdrew1, fdrewN, fdrew1, cset_far]; first | done | assumption))
    have q2 : w1.cell? ⟨w.heap.size + 1, 2, none⟩ = some (.slice none 0 0) := (by rw [(bcell hb1).1 _ _ (by first | omega | (simp only [sz_alloc, sz_drewN, sz_drew1, sz_set]; omega))]; first | assumption | rfl | (simp (disch := (first | omega | (simp only [sz_alloc, sz_drewN, sz_drew1, sz_set]; omega))) only [calloc, falloc, cdrewN, cdrew1, fdrewN, fdrew1, cset_far, fset_any]; first | done | assumption) | (go_simp; done) | (simp (disch := (first | omega | (simp only [sz_alloc, sz_drewN, sz_drew1, sz_set]; omega))) [calloc, falloc, cdrewN, cdrew1, fdrewN, fdrew1, cset_far]; first | done | assumption))
    have f0 : w1.frozen? ⟨w.heap.size + 1, 0, none⟩ = false := (by rw [(bcell hb1).2 _ _ (by first | omega | (simp only [sz_alloc, sz_drewN, sz_drew1, sz_set]; omega))]; first | assumption | rfl | (simp (disch := (first | omega | (simp only [sz_alloc, sz_drewN, sz_drew1, sz_set]; omega))) only [calloc, falloc, cdrewN, cdrew1, fdrewN, fdrew1, cset_far, fset_any]; first | done | assumption) | (go_simp; done) | (simp (disch := (first | omega | (simp only [sz_alloc, sz_drewN, sz_drew1, sz_set]; omega))) [calloc, falloc, cdrewN, cdrew1, fdrewN, fdrew1, cset_far]; first | done | assumption))
    have f1 : w1.frozen? ⟨w.heap.size + 1, 1, none⟩ = false := (by rw [(bcell hb1).2 _ _ (by first | omega | (simp only [sz_alloc, sz_drewN, sz_drew1, sz_set]; omega))]; first | assumption | rfl | (simp (disch := (first | omega | (simp only [sz_alloc, sz_drewN, sz_drew1, sz_set]; omega))) only [calloc, falloc, cdrewN, cdrew1, fdrewN, fdrew1, cset_far, fset_any]; first | done | assumption) | (go_simp; done) | (simp (disch := (first | omega | (simp only [sz_alloc, sz_drewN, sz_drew1, sz_set]; omega))) [calloc, falloc, cdrewN, cdrew1, fdrewN, fdrew1, cset_far]; first | done | assumption))
    have f2 : w1.frozen? ⟨w.heap.size + 1, 2, none⟩ = false := (by rw [(bcell hb1).2 _ _ (by first | omega | (simp only [sz_alloc, sz_drewN, sz_drew1, sz_set]; omega))]; first | assumption | rfl | (simp (disch := (first | omega | (simp only [sz_alloc, sz_drewN, sz_drew1, sz_set]; omega))) only [calloc, falloc, cdrewN, cdrew1, fdrewN, fdrew1, cset_far, fset_any]; first | done | assumption) | (go_simp; done) | (simp (disch := (first | omega | (simp only [sz_alloc, sz_drewN, sz_drew1, sz_set]; omega))) [calloc, falloc, cdrewN, cdrew1, fdrewN, fdrew1, cset_far]; first | done | assumption))
    have hb2 : Below w.heap.size w w1 := Below.trans (by repeat (first | assumption | exact Below.refl _ _ | refine below_drewN ?_ _ | refine below_drew1 ?_ | refine Below.al ?_ (by first | exact Nat.le_refl _ | omega | (simp; done) | (simp; omega)) _ | refine Below.setCell ?_ (by first | exact Nat.le_refl _ | omega | (simp; done) | (simp; omega)) _)) (hb1.mono (by first | exact Nat.le_refl _ | omega | (simp; done) | (simp; omega)))
    have HB := hid hb2; clear hb1 hb2
    go_wp2_with fail
    refine (specTr a n c xs cn _ (beMat HI.out.1 HB.out hh) (by omega) (by rw [← HLL.out.2.2]; exact HMT.out) hn5.2.2.2 (by omega) (by omega)).mono ?_
    rintro e w2 ⟨ma, mn, mc, rfl, ho2, hb2⟩
    have hz2 := hb2.size
    have hlt2 : w.heap.size < w2.heap.size := by omega
    have hlt2' : w.heap.size + 1 < w2.heap.size := by omega
    have B1 : w2.cell? ⟨w.heap.size, 1, none⟩ = some (.slice ba bn bc) := by rw [(bcell hb2).1 _ _ hlt1]; exact b1
    have B2 : w2.cell? ⟨w.heap.size, 2, none⟩ = some (.slice ca cn cc) := by rw [(bcell hb2).1 _ _ hlt1]; exact b2
    have Q0 : w2.cell? ⟨w.heap.size + 1, 0, none⟩ = some (.slice none 0 0) := by rw [(bcell hb2).1 _ _ hlt1']; exact q0
    have Q1 : w2.cell? ⟨w.heap.size + 1, 1, none⟩ = some (.slice none 0 0) := by rw [(bcell hb2).1 _ _ hlt1']; exact q1
    have Q2 : w2.cell? ⟨w.heap.size + 1, 2, none⟩ = some (.slice none 0 0) := by rw [(bcell hb2).1 _ _ hlt1']; exact q2
    have F0 : w2.frozen? ⟨w.heap.size + 1, 0, none⟩ = false := by rw [(bcell hb2).2 _ _ hlt1']; exact f0
    have F1 : w2.frozen? ⟨w.heap.size + 1, 1, none⟩ = false := by rw [(bcell hb2).2 _ _ hlt1']; exact f1
    have F2 : w2.frozen? ⟨w.heap.size + 1, 2, none⟩ = false := by rw [(bcell hb2).2 _ _ hlt1']; exact f2
    have HB2 := hid (HB.out.trans (hb2.mono (by omega)))
    have HO2 := hid ho2
    clear hb2 ho2 b0 b1 b2 q0 q1 q2 f0 f1 f2
    go_wp2_with fail
    refine wp_region_grow (n := 9) (N := 26) (by kernel_rfl) (by kernel_rfl) (by rfl)
      (vp [pEq (.slice ma mn mc), pEmp 53, pEq (.pointer (some ⟨w.heap.size, 2, none⟩)), pEq (.slice ca cn cc), pDat ratsQ cn cs,
        pEmp 53, pEq (.pointer (some ⟨w.heap.size, 1, none⟩)), pEq (.slice ba bn bc), pDat ratsQ bn bs])
      (stab_vp (by
        intro p hp
        simp only [List.mem_cons, List.not_mem_nil, or_false] at hp
        rcases hp with rfl | rfl | rfl | rfl | rfl | rfl | rfl | rfl | rfl <;> first | exact pEq_st _ | exact pEmp_st _ | exact pDat_st ratsQOK _ _)) ?_ ?_
    · intro i o hi ho a' w' hB hF hdeps
      rcases (by omega : i = 0 ∨ i = 1 ∨ i = 2 ∨ i = 3 ∨ i = 4 ∨ i = 5 ∨ i = 6 ∨ i = 7 ∨ i = 8) with rfl | rfl | rfl | rfl | rfl | rfl | rfl | rfl | rfl
      · obtain rfl := Option.some.inj ho
        have e4 := hF.ev 4 (by kernel_rfl) rfl
        refine stepG (v := .slice ma mn mc) (s := w'.heap.size) (t := w'.heap.size) (w'' := w') ?_ ?_ ?_ ?_ ?_
        · simp [execOp, e4]
        · exact Below.refl _ _
        · exact Nat.le_refl _
        · exact Nat.le_refl _
        · exact rfl
      · obtain rfl := Option.some.inj ho
        refine stepG (v := (.slice (some ⟨w'.heap.size, 0, none⟩) 0 0)) (s := w'.heap.size) (t := w'.heap.size) (w'' := w'.alloc (.cells #[] 53)) ?_ ?_ ?_ ?_ ?_
        · simp [execOp, go_sem]
        · exact (by repeat (first | assumption | exact Below.refl _ _ | refine below_drewN ?_ _ | refine Below.al ?_ (by first | exact Nat.le_refl _ | omega | (simp; done) | (simp; omega)) _ | refine Below.setCell ?_ (by first | exact Nat.le_refl _ | omega | (simp; done) | (simp; omega)) _))
        · exact Nat.le_refl _
        · simp
        · exact ⟨w'.heap.size, rfl, heap_alloc_new _ _⟩
      · obtain rfl := Option.some.inj ho
        have e1 := evTmp (hF.ev 1 (by kernel_rfl) rfl)
        refine stepG (v := .pointer (some ⟨w.heap.size, 2, none⟩)) (s := w'.heap.size) (t := w'.heap.size) (w'' := w') ?_ ?_ ?_ ?_ ?_
        · simp [execOp, e1, go_sem]
        · exact Below.refl _ _
        · exact Nat.le_refl _
        · exact Nat.le_refl _
        · exact rfl
      · obtain rfl := Option.some.inj ho
        obtain ⟨_, _, e'⟩ := hdeps ⟨2, .data⟩ (by simp) (by rfl) _ 18 rfl rfl
        have e := evTmp (show a'.eval (.tmp 18) = .pointer (some ⟨w.heap.size, 2, none⟩) from e')
        have hc : w'.cell? ⟨w.heap.size, 2, none⟩ = some (.slice ca cn cc) := by rw [(bcell hB).1 _ _ hlt2]; exact B2
        refine stepG (v := .slice ca cn cc) (s := w'.heap.size) (t := w'.heap.size) (w'' := w') ?_ ?_ ?_ ?_ ?_
        · simp [execOp, e, go_sem, hc]
        · exact Below.refl _ _
        · exact Nat.le_refl _
        · exact Nat.le_refl _
        · exact rfl
      · obtain rfl := Option.some.inj ho
        obtain ⟨_, _, g, e1, hg⟩ := hdeps ⟨1, .data⟩ (by simp) (by rfl) _ 17 rfl rfl
        obtain ⟨_, _, e2⟩ := hdeps ⟨3, .data⟩ (by simp) (by rfl) _ 19 rfl rfl
        have e1' : a'.eval (.tmp 17) = .slice (some ⟨g, 0, none⟩) 0 0 := e1
        have e2' : a'.eval (.tmp 19) = .slice ca cn cc := e2
        obtain ⟨a1, c1, w3, s, t, hr, hb3, k1, k2, k3, k4⟩ := run_append_rats 28 g hg ca cn cc cs (beRats (beRats HI.out.2.2 HB2.out hh) hB (by omega)) (by omega)
        refine stepG (v := .slice a1 cn c1) (s := s) (t := t) (w'' := w3) ?_ hb3 k1 k2 ⟨k2, k4, a1, c1, rfl, k3⟩
        simp [execOp, resolve, invoke, builtin, e1', e2', hr, Result.andThen]
      · obtain rfl := Option.some.inj ho
        refine stepG (v := (.slice (some ⟨w'.heap.size, 0, none⟩) 0 0)) (s := w'.heap.size) (t := w'.heap.size) (w'' := w'.alloc (.cells #[] 53)) ?_ ?_ ?_ ?_ ?_
        · simp [execOp, go_sem]
        · exact (by repeat (first | assumption | exact Below.refl _ _ | refine below_drewN ?_ _ | refine Below.al ?_ (by first | exact Nat.le_refl _ | omega | (simp; done) | (simp; omega)) _ | refine Below.setCell ?_ (by first | exact Nat.le_refl _ | omega | (simp; done) | (simp; omega)) _))
        · exact Nat.le_refl _
        · simp
        · exact ⟨w'.heap.size, rfl, heap_alloc_new _ _⟩
      · obtain rfl := Option.some.inj ho
        have e1 := evTmp (hF.ev 1 (by kernel_rfl) rfl)
        refine stepG (v := .pointer (some ⟨w.heap.size, 1, none⟩)) (s := w'.heap.size) (t := w'.heap.size) (w'' := w') ?_ ?_ ?_ ?_ ?_
        · simp [execOp, e1, go_sem]
        · exact Below.refl _ _
        · exact Nat.le_refl _
        · exact Nat.le_refl _
        · exact rfl
      · obtain rfl := Option.some.inj ho
        obtain ⟨_, _, e'⟩ := hdeps ⟨6, .data⟩ (by simp) (by rfl) _ 22 rfl rfl
        have e := evTmp (show a'.eval (.tmp 22) = .pointer (some ⟨w.heap.size, 1, none⟩) from e')
        have hc : w'.cell? ⟨w.heap.size, 1, none⟩ = some (.slice ba bn bc) := by rw [(bcell hB).1 _ _ hlt2]; exact B1
        refine stepG (v := .slice ba bn bc) (s := w'.heap.size) (t := w'.heap.size) (w'' := w') ?_ ?_ ?_ ?_ ?_
        · simp [execOp, e, go_sem, hc]
        · exact Below.refl _ _
        · exact Nat.le_refl _
        · exact Nat.le_refl _
        · exact rfl
      · obtain rfl := Option.some.inj ho
        obtain ⟨_, _, g, e1, hg⟩ := hdeps ⟨5, .data⟩ (by simp) (by rfl) _ 21 rfl rfl
        obtain ⟨_, _, e2⟩ := hdeps ⟨7, .data⟩ (by simp) (by rfl) _ 23 rfl rfl
        have e1' : a'.eval (.tmp 21) = .slice (some ⟨g, 0, none⟩) 0 0 := e1
        have e2' : a'.eval (.tmp 23) = .slice ba bn bc := e2
        obtain ⟨a1, c1, w3, s, t, hr, hb3, k1, k2, k3, k4⟩ := run_append_rats 28 g hg ba bn bc bs (beRats (beRats HI.out.2.1 HB2.out hh) hB (by omega)) (by omega)
        refine stepG (v := .slice a1 bn c1) (s := s) (t := t) (w'' := w3) ?_ hb3 k1 k2 ⟨k2, k4, a1, c1, rfl, k3⟩
        simp [execOp, resolve, invoke, builtin, e1', e2', hr, Result.andThen]
    · intro a' w' s t hB hF hV hD
      obtain ⟨⟨l⟩, df⟩ := a'
      obtain rfl : df = [] := hF.1
      have hlen : l.length = 26 := hF.2.1
      match l, hlen with
      | [u0, u1, u2, u3, u4, u5, u6, u7, u8, u9, u10, u11, u12, u13, u14, u15, u16, u17, u18, u19, u20, u21, u22, u23, u24, u25], _ =>
        have e2 : u2 = .pointer (some ⟨w.heap.size + 1, 0, none⟩) := hF.at 2 (by kernel_rfl)
        obtain ⟨_, _, e16⟩ := hV 0 _ 16 (by omega) rfl rfl
        obtain ⟨hs4, ht4, _, _, a4, c4, e20, r4⟩ := hV 4 _ 20 (by omega) rfl rfl
        obtain ⟨hs8, ht8, _, _, a8, c8, e24, r8⟩ := hV 8 _ 24 (by omega) rfl rfl
        replace e16 : u16 = .slice ma mn mc := e16
        replace e20 : u20 = .slice a4 cn c4 := e20
        replace e24 : u24 = .slice a8 bn c8 := e24
        subst e2; subst e16; subst e20; subst e24
        have Q0' : w'.cell? ⟨w.heap.size + 1, 0, none⟩ = some (.slice none 0 0) := by rw [(bcell hB).1 _ _ hlt2']; exact Q0
        have Q1' : w'.cell? ⟨w.heap.size + 1, 1, none⟩ = some (.slice none 0 0) := by rw [(bcell hB).1 _ _ hlt2']; exact Q1
        have Q2' : w'.cell? ⟨w.heap.size + 1, 2, none⟩ = some (.slice none 0 0) := by rw [(bcell hB).1 _ _ hlt2']; exact Q2
        have F0' : w'.frozen? ⟨w.heap.size + 1, 0, none⟩ = false := by rw [(bcell hB).2 _ _ hlt2']; exact F0
        have F1' : w'.frozen? ⟨w.heap.size + 1, 1, none⟩ = false := by rw [(bcell hB).2 _ _ hlt2']; exact F1
        have F2' : w'.frozen? ⟨w.heap.size + 1, 2, none⟩ = false := by rw [(bcell hB).2 _ _ hlt2']; exact F2
        have HD48 := hid (hD 4 8 (by omega) (by omega) (by omega))
        have HR := hid (And.intro r4 (And.intro r8 (And.intro (And.intro hs4 ht4) (And.intro hs8 ht8))))
        have HBB := hid hB
        clear hV hD hF r4 r8 hs4 ht4 hs8 ht8 hB Q0 Q1 Q2 F0 F1 F2
        change wpList _ _ _ [_, _, _] _ _
        go_wp2
        have hzz := HBB.out.size
        refine bodyPost_ret (v := .tuple #[lpV ma mn mc a4 cn c4 a8 bn c8, .bool true]) (by simp [results, Try.results7, go_sem, Q0', Q1', Q2']) rfl ⟨_, _, _, _, _, _, _, _, _, by rw [H1.out], ?_, ?_⟩
        · have hset : ∀ lo hi, w.heap.size + 1 < lo → Keeps lo hi w' (((w'.setCell ⟨w.heap.size + 1, 0, none⟩ (.slice ma mn mc)).setCell ⟨w.heap.size + 1, 1, none⟩ (.slice a4 cn c4)).setCell ⟨w.heap.size + 1, 2, none⟩ (.slice a8 bn c8)) := fun lo hi h => Keeps.sc (Keeps.sc (Keeps.sc (Keeps.refl _ _ _) (.inl h) _) (.inl h) _) (.inl h) _
          have hk : ∀ {α : Type} (x y : α), (if lpOK xs bs cs = true then x else y) = x := fun x y => if_pos H1.out
          refine ⟨w1.heap.size, w2.heap.size, s 4, t 4, s 8, t 8, ?_, ?_, ?_, ?_, ?_, ?_, ?_⟩
          · have h1 : MatS w1.heap.size w2.heap.size w2 ma mn mc (dualA xs bs cs) := by unfold dualA; rw [hk, HLL.out.2.2]; exact HO2.out
            exact SepA.keep ratsQOK (SepA.keep ratsQOK h1 (Keeps.of_below HBB.out (Nat.le_refl _))) (hset _ _ (by omega))
          · have h1 : RatsA true (s 4) (t 4) w' a4 cn c4 (dualB xs bs cs) := by unfold dualB; rw [hk]; exact HR.out.1
            exact kpRats h1 (hset _ _ (by have := HR.out.2.2.1; omega))
          · have h1 : RatsA true (s 8) (t 8) w' a8 bn c8 (dualC xs bs cs) := by unfold dualC; rw [hk]; exact HR.out.2.1
            exact kpRats h1 (hset _ _ (by have := HR.out.2.2.2; omega))
          · have := HR.out.2.2; simp only [sz_set]; omega
          · have := HR.out.2.2; omega
          · have := HR.out.2.2; omega
          · exact HD48.out
        · have hq := HB2.out.trans (HBB.out.mono (by omega)); exact (by repeat (first | assumption | exact Below.refl _ _ | refine below_drewN ?_ _ | refine below_drew1 ?_ | refine Below.al ?_ (by first | exact Nat.le_refl _ | omega | (simp; done) | (simp; omega)) _ | refine Below.setCell ?_ (by first | exact Nat.le_refl _ | omega | (simp; done) | (simp; omega)) _))
set_option maxRecDepth 100000 in
set_option maxHeartbeats 12800000 in
theorem implDual {fz : Bool} {lo hi : Nat} (a : Option Addr) (n c : Nat) (xs : List (List RatD)) (ba : Option Addr) (bn bc : Nat) (bs : List RatD) (ca : Option Addr) (cn cc : Nat) (cs : List RatD) (w : World)
    (hI : LPA fz lo hi w a n c xs ba bn bc bs ca cn cc cs) (hh : hi ≤ w.heap.size) :
    Calls Try.prog 9 #[lpV a n c ba bn bc ca cn cc] w (GvLPB w (dualA xs bs cs) (dualB xs bs cs) (dualC xs bs cs) (lpOK xs bs cs)) := by
  have hl1 := hI.1.len; have hl2 := hI.2.1.len; have hl3 := hI.2.2.len
  have HLL := hid (And.intro hl1 (And.intro hl2 hl3)); clear hl1 hl2 hl3
  have HI := hid hI; clear hI
  obtain ⟨k1, hk1⟩ : ∃ k, lpOK xs bs cs = k := ⟨_, rfl⟩
  have H1 := hid hk1
  cases k1 with
  | false =>
    clear hk1
    go_enter Try.func9, Try.ntmps9
    go_wp2_with fail
    refine (implValidLP a n c xs ba bn bc bs ca cn cc cs _ (beLP (B := w.heap.size) HI.out (by repeat (first | assumption | exact Below.refl _ _ | refine below_drewN ?_ _ | refine Below.al ?_ (by first | exact Nat.le_refl _ | omega | (simp; done) | (simp; omega)) _ | refine Below.setCell ?_ (by first | exact Nat.le_refl _ | omega | (simp; done) | (simp; omega)) _)) hh) (by first | exact Nat.le_refl _ | omega | (simp; done) | (simp; omega))).mono ?_
    rintro e w1 ⟨rfl, hb1⟩
    rw [H1.out]
    have hz := hb1.size
    simp at hz
    have q0 : w1.cell? ⟨w.heap.size + 1, 0, none⟩ = some (.slice none 0 0) := (by rw [(bcell hb1).1 _ _ (by first | omega | (simp only [sz_alloc, sz_drewN, sz_drew1, sz_set]; omega))]; first | assumption | rfl | (simp (disch := (first | omega | (simp only [sz_alloc, sz_drewN, sz_drew1, sz_set]; omega))) only [calloc, falloc, cdrewN, cdrew1, fdrewN, fdrew1, cset_far, fset_any]; first | done | assumption) | (go_simp; done) | (simp (disch := (first | omega | (simp only [sz_alloc, sz_drewN, sz_drew1, sz_set]; omega))) [calloc, falloc, cdrewN, cdrew1, fdrewN, fdrew1, cset_far]; first | done | assumption))
    have q1 : w1.cell? ⟨w.heap.size + 1, 1, none⟩ = some (.slice none 0 0) := (by rw [(bcell hb1).1 _ _ (by first | omega | (simp only [sz_alloc, sz_drewN, sz_drew1, sz_set]; omega))]; first | assumption | rfl | (simp (disch := (first | omega | (simp only [sz_alloc, sz_drewN, sz_drew1, sz_set]; omega))) only [calloc, falloc, cdrewN, cdrew1, fdrewN, fdrew1, cset_far, fset_any]; first | done | assumption) | (go_simp; done) | (simp (disch := (first | omega | (simp only [sz_alloc, sz_drewN, sz_drew1, sz_set]; omega))) [calloc, falloc, cdrewN, cdrew1, fdrewN, fdrew1, cset_far]; first | done | assumption))
    have q2 : w1.cell? ⟨w.heap.size + 1, 2, none⟩ = some (.slice none 0 0) := (by rw [(bcell hb1).1 _ _ (by first | omega | (simp only [sz_alloc, sz_drewN, sz_drew1, sz_set]; omega))]; first | assumption | rfl | (simp (disch := (first | omega | (simp only [sz_alloc, sz_drewN, sz_drew1, sz_set]; omega))) only [calloc, falloc, cdrewN, cdrew1, fdrewN, fdrew1, cset_far, fset_any]; first | done | assumption) | (go_simp; done) | (simp (disch := (first | omega | (simp only [sz_alloc, sz_drewN, sz_drew1, sz_set]; omega))) [calloc, falloc, cdrewN, cdrew1, fdrewN, fdrew1, cset_far]; first | done | assumption))
    have f0 : w1.frozen? ⟨w.heap.size + 1, 0, none⟩ = false := (by rw [(bcell hb1).2 _ _ (by first | omega | (simp only [sz_alloc, sz_drewN, sz_drew1, sz_set]; omega))]; first | assumption | rfl | (simp (disch := (first | omega | (simp only [sz_alloc, sz_drewN, sz_drew1, sz_set]; omega))) only [calloc, falloc, cdrewN, cdrew1, fdrewN, fdrew1, cset_far, fset_any]; first | done | assumption) | (go_simp; done) | (simp (disch := (first | omega | (simp only [sz_alloc, sz_drewN, sz_drew1, sz_set]; omega))) [calloc, falloc, cdrewN, cdrew1, fdrewN, fdrew1, cset_far]; first | done | assumption))
    have f1 : w1.frozen? ⟨w.heap.size + 1, 1, none⟩ = false := (by rw [(bcell hb1).2 _ _ (by first | omega | (simp only [sz_alloc, sz_drewN, sz_drew1, sz_set]; omega))]; first | assumption | rfl | (simp (disch := (first | omega | (simp only [sz_alloc, sz_drewN, sz_drew1, sz_set]; omega))) only [calloc, falloc, cdrewN, cdrew1, fdrewN, fdrew1, cset_far, fset_any]; first | done | assumption) | (go_simp; done) | (simp (disch := (first | omega | (simp only [sz_alloc, sz_drewN, sz_drew1, sz_set]; omega))) [calloc, falloc, cdrewN, cdrew1, fdrewN, fdrew1, cset_far]; first | done | assumption))
    have f2 : w1.frozen? ⟨w.heap.size + 1, 2, none⟩ = false := (by rw [(bcell hb1).2 _ _ (by first | omega | (simp only [sz_alloc, sz_drewN, sz_drew1, sz_set]; omega))]; first | assumption | rfl | (simp (disch := (first | omega | (simp only [sz_alloc, sz_drewN, sz_drew1, sz_set]; omega))) only [calloc, falloc, cdrewN, cdrew1, fdrewN, fdrew1, cset_far, fset_any]; first | done | assumption) | (go_simp; done) | (simp (disch := (first | omega | (simp only [sz_alloc, sz_drewN, sz_drew1, sz_set]; omega))) [calloc, falloc, cdrewN, cdrew1, fdrewN, fdrew1, cset_far]; first | done | assumption))
    have hb2 : Below w.heap.size w w1 := Below.trans (by repeat (first | assumption | exact Below.refl _ _ | refine below_drewN ?_ _ | refine below_drew1 ?_ | refine Below.al ?_ (by first | exact Nat.le_refl _ | omega | (simp; done) | (simp; omega)) _ | refine Below.setCell ?_ (by first | exact Nat.le_refl _ | omega | (simp; done) | (simp; omega)) _)) (hb1.mono (by first | exact Nat.le_refl _ | omega | (simp; done) | (simp; omega)))
    have HB := hid hb2; clear hb1 hb2
    go_wp2_with fail
    refine bodyPost_ret (v := .tuple #[lpV none 0 0 none 0 0 none 0 0, .bool false]) (by simp [results, Try.results9, go_sem, q0, q1, q2]) rfl ⟨_, _, _, _, _, _, _, _, _, by rw [H1.out], ?_, ?_⟩
    · refine ⟨w.heap.size, w.heap.size, w.heap.size, w.heap.size, w.heap.size, w.heap.size, ?_, ?_, ?_, ?_, ?_⟩
      · simp only [dualA, H1.out]; exact ⟨rfl, Nat.le_refl _, by simp [maxLen], fun h => by omega, fun _ => rfl⟩
      · simp only [dualB, H1.out]; exact ⟨rfl, Nat.le_refl _, by simp [maxLen], fun h => by omega, fun _ => rfl⟩
      · simp only [dualC, H1.out]; exact ⟨rfl, Nat.le_refl _, by simp [maxLen], fun h => by omega, fun _ => rfl⟩
      · simp only [sz_set]; omega
      · omega
    · have hq := HB.out; exact (by repeat (first | assumption | exact Below.refl _ _ | refine below_drewN ?_ _ | refine below_drew1 ?_ | refine Below.al ?_ (by first | exact Nat.le_refl _ | omega | (simp; done) | (simp; omega)) _ | refine Below.setCell ?_ (by first | exact Nat.le_refl _ | omega | (simp; done) | (simp; omega)) _))
  | true =>
    have hlen := lp_len hk1
    have hn5 : n ≤ 5 ∧ bn ≤ 5 ∧ cn ≤ 5 ∧ 0 < n := by have := HLL.out; omega
    have HMT := hid (lp_mat hk1)
    clear hlen hk1
    go_enter Try.func9, Try.ntmps9
    go_wp2_with fail
    refine (implValidLP a n c xs ba bn bc bs ca cn cc cs _ (beLP (B := w.heap.size) HI.out (by repeat (first | assumption | exact Below.refl _ _ | refine below_drewN ?_ _ | refine Below.al ?_ (by first | exact Nat.le_refl _ | omega | (simp; done) | (simp; omega)) _ | refine Below.setCell ?_ (by first | exact Nat.le_refl _ | omega | (simp; done) | (simp; omega)) _)) hh) (by first | exact Nat.le_refl _ | omega | (simp; done) | (simp; omega))).mono ?_
    rintro e w1 ⟨rfl, hb1⟩
    rw [H1.out]
    have hz := hb1.size
    simp at hz
    have hlt1 : w.heap.size < w1.heap.size := by omega
    have hlt1' : w.heap.size + 1 < w1.heap.size := by omega
    have b0 : w1.cell? ⟨w.heap.size, 0, none⟩ = some (.slice a n c) := (by rw [(bcell hb1).1 _ _ (by first | omega | (simp only [sz_alloc, sz_drewN, sz_drew1, sz_set]; omega))]; first | assumption | rfl | (simp (disch := (first | omega | (simp only [sz_alloc, sz_drewN, sz_drew1, sz_set]; omega))) only [calloc, falloc, cdrewN, cdrew1, fdrewN, fdrew1, cset_far, fset_any]; first | done | assumption) | (go_simp; done) | (simp (disch := (first | omega | (simp only [sz_alloc, sz_drewN, sz_drew1, sz_set]; omega))) [calloc, falloc, cdrewN, cdrew1, fdrewN, fdrew1, cset_far]; first | done | assumption))
    have b1 : w1.cell? ⟨w.heap.size, 1, none⟩ = some (.slice ba bn bc) := (by rw [(bcell hb1).1 _ _ (by first | omega | (simp only [sz_alloc, sz_drewN, sz_drew1, sz_set]; omega))]; first | assumption | rfl | (simp (disch := (first | omega | (simp only [sz_alloc, sz_drewN, sz_drew1, sz_set]; omega))) only [calloc, falloc, cdrewN, cdrew1, fdrewN, fdrew1, cset_far, fset_any]; first | done | assumption) | (go_simp; done) | (simp (disch := (first | omega | (simp only [sz_alloc, sz_drewN, sz_drew1, sz_set]; omega))) [calloc, falloc, cdrewN, cdrew1, fdrewN, fdrew1, cset_far]; first | done | assumption))
    have b2 : w1.cell? ⟨w.heap.size, 2, none⟩ = some (.slice ca cn cc) := (by rw [(bcell hb1).1 _ _ (by first | omega | (simp only [sz_alloc, sz_drewN, sz_drew1, sz_set]; omega))]; first | assumption | rfl | (simp (disch := (first | omega | (simp only [sz_alloc, sz_drewN, sz_drew1, sz_set]; omega))) only [calloc, falloc, cdrewN, cdrew1, fdrewN, fdrew1, cset_far, fset_any]; first | done | assumption) | (go_simp; done) | (simp (disch := (first | omega | (simp only [sz_alloc, sz_drewN, sz_drew1, sz_set]; omega))) [calloc, falloc, cdrewN, cdrew1, fdrewN, fdrew1, cset_far]; first | done | assumption))
    have q0 : w1.cell? ⟨w.heap.size + 1, 0, none⟩ = some (.slice none 0 0) := (by rw [(bcell hb1).1 _ _ (by first | omega | (simp only [sz_alloc, sz_drewN, sz_drew1, sz_set]; omega))]; first | assumption | rfl | (simp (disch := (first | omega | (simp only [sz_alloc, sz_drewN, sz_drew1, sz_set]; omega))) only [calloc, falloc, cdrewN, cdrew1, fdrewN, fdrew1, cset_far, fset_any]; first | done | assumption) | (go_simp; done) | (simp (disch := (first | omega | (simp only [sz_alloc, sz_drewN, sz_drew1, sz_set]; omega))) [calloc, falloc, cdrewN, cdrew1, fdrewN, fdrew1, cset_far]; first | done | assumption))
    have q1 : w1.cell? ⟨w.heap.size + 1, 1, none⟩ = some (.slice none 0 0) := (by rw [(bcell hb1).1 _ _ (by first | omega | (simp only [sz_alloc, sz_drewN, sz_drew1, sz_set]; omega))]; first | assumption | rfl | (simp (disch := (first | omega | (simp only [sz_alloc, sz_drewN, sz_drew1, sz_set]; omega))) only [calloc, falloc, cdrewN, cdrew1, fdrewN, fdrew1, cset_far, fset_any]; first | done | assumption) | (go_simp; done) | (simp (disch := (first | omega | (simp only [sz_alloc, sz_drewN, sz_drew1, sz_set]; omega))) [calloc, falloc, cdrewN, cdrew1, fdrewN, fdrew1, cset_far]; first | done | assumption))
    have q2 : w1.cell? ⟨w.heap.size + 1, 2, none⟩ = some (.slice none 0 0) := (by rw [(bcell hb1).1 _ _ (by first | omega | (simp only [sz_alloc, sz_drewN, sz_drew1, sz_set]; omega))]; first | assumption | rfl | (simp (disch := (first | omega | (simp only [sz_alloc, sz_drewN, sz_drew1, sz_set]; omega))) only [calloc, falloc, cdrewN, cdrew1, fdrewN, fdrew1, cset_far, fset_any]; first | done | assumption) | (go_simp; done) | (simp (disch := (first | omega | (simp only [sz_alloc, sz_drewN, sz_drew1, sz_set]; omega))) [calloc, falloc, cdrewN, cdrew1, fdrewN, fdrew1, cset_far]; first | done | assumption))
    have f0 : w1.frozen? ⟨w.heap.size + 1, 0, none⟩ = false := (by rw [(bcell hb1).2 _ _ (by first | omega | (simp only [sz_alloc, sz_drewN, sz_drew1, sz_set]; omega))]; first | assumption | rfl | (simp (disch := (first | omega | (simp only [sz_alloc, sz_drewN, sz_drew1, sz_set]; omega))) only [calloc, falloc, cdrewN, cdrew1, fdrewN, fdrew1, cset_far, fset_any]; first | done | assumption) | (go_simp; done) | (simp (disch := (first | omega | (simp only [sz_alloc, sz_drewN, sz_drew1, sz_set]; omega))) [calloc, falloc, cdrewN, cdrew1, fdrewN, fdrew1, cset_far]; first | done | assumption))
    have f1 : w1.frozen? ⟨w.heap.size + 1, 1, none⟩ = false := (by rw [(bcell hb1).2 _ _ (by first | omega | (simp only [sz_alloc, sz_drewN, sz_drew1, sz_set]; omega))]; first | assumption | rfl | (simp (disch := (first | omega | (simp only [sz_alloc, sz_drewN, sz_drew1, sz_set]; omega))) only [calloc, falloc, cdrewN, cdrew1, fdrewN, fdrew1, cset_far, fset_any]; first | done | assumption) | (go_simp; done) | (simp (disch := (first | omega | (simp only [sz_alloc, sz_drewN, sz_drew1, sz_set]; omega))) [calloc, falloc, cdrewN, cdrew1, fdrewN, fdrew1, cset_far]; first | done | assumption))
    have f2 : w1.frozen? ⟨w.heap.size + 1, 2, none⟩ = false := (by rw [(bcell hb1).2 _ _ (by first | omega | (simp only [sz_alloc, sz_drewN, sz_drew1, sz_set]; omega))]; first | assumption | rfl | (simp (disch := (first | omega | (simp only [sz_alloc, sz_drewN, sz_drew1, sz_set]; omega))) only [calloc, falloc, cdrewN, cdrew1, fdrewN, fdrew1, cset_far, fset_any]; first | done | assumption) | (go_simp; done) | (simp (disch := (first | omega | (simp only [sz_alloc, sz_drewN, sz_drew1, sz_set]; omega))) [calloc, falloc, cdrewN, cdrew1, fdrewN, fdrew1, cset_far]; first | done | assumption))
    have hb2 : Below w.heap.size w w1 := Below.trans (by repeat (first | assumption | exact Below.refl _ _ | refine below_drewN ?_ _ | refine below_drew1 ?_ | refine Below.al ?_ (by first | exact Nat.le_refl _ | omega | (simp; done) | (simp; omega)) _ | refine Below.setCell ?_ (by first | exact Nat.le_refl _ | omega | (simp; done) | (simp; omega)) _)) (hb1.mono (by first | exact Nat.le_refl _ | omega | (simp; done) | (simp; omega)))
    have HB := hid hb2; clear hb1 hb2
    go_wp2_with fail
    refine (implTr a n c xs cn _ (beMat HI.out.1 HB.out hh) (by omega) (by rw [← HLL.out.2.2]; exact HMT.out) hn5.2.2.2 (by omega) (by omega)).mono ?_
    rintro e w2 ⟨ma, mn, mc, rfl, ho2, hb2⟩
    have hz2 := hb2.size
    have hlt2 : w.heap.size < w2.heap.size := by omega
    have hlt2' : w.heap.size + 1 < w2.heap.size := by omega
    have B1 : w2.cell? ⟨w.heap.size, 1, none⟩ = some (.slice ba bn bc) := by rw [(bcell hb2).1 _ _ hlt1]; exact b1
    have B2 : w2.cell? ⟨w.heap.size, 2, none⟩ = some (.slice ca cn cc) := by rw [(bcell hb2).1 _ _ hlt1]; exact b2
    have Q0 : w2.cell? ⟨w.heap.size + 1, 0, none⟩ = some (.slice none 0 0) := by rw [(bcell hb2).1 _ _ hlt1']; exact q0
    have Q1 : w2.cell? ⟨w.heap.size + 1, 1, none⟩ = some (.slice none 0 0) := by rw [(bcell hb2).1 _ _ hlt1']; exact q1
    have Q2 : w2.cell? ⟨w.heap.size + 1, 2, none⟩ = some (.slice none 0 0) := by rw [(bcell hb2).1 _ _ hlt1']; exact q2
    have F0 : w2.frozen? ⟨w.heap.size + 1, 0, none⟩ = false := by rw [(bcell hb2).2 _ _ hlt1']; exact f0
    have F1 : w2.frozen? ⟨w.heap.size + 1, 1, none⟩ = false := by rw [(bcell hb2).2 _ _ hlt1']; exact f1
    have F2 : w2.frozen? ⟨w.heap.size + 1, 2, none⟩ = false := by rw [(bcell hb2).2 _ _ hlt1']; exact f2
    have HB2 := hid (HB.out.trans (hb2.mono (by omega)))
    have HO2 := hid ho2
    clear hb2 ho2 b0 b1 b2 q0 q1 q2 f0 f1 f2
    go_wp2_with fail
    refine wp_region_grow (n := 7) (N := 24) (by kernel_rfl) (by kernel_rfl) (by rfl)
      (vp [pEq (.slice ma mn mc), pEq (.pointer (some ⟨w.heap.size, 2, none⟩)), pEq (.slice ca cn cc), pDat ratsQ cn cs, pEq (.pointer (some ⟨w.heap.size, 1, none⟩)), pEq (.slice ba bn bc), pDat ratsQ bn bs])
      (stab_vp (by
        intro p hp
        simp only [List.mem_cons, List.not_mem_nil, or_false] at hp
        rcases hp with rfl | rfl | rfl | rfl | rfl | rfl | rfl <;> first | exact pEq_st _ | exact pDat_st ratsQOK _ _)) ?_ ?_
    · intro i o hi ho a' w' hB hF hdeps
      rcases (by omega : i = 0 ∨ i = 1 ∨ i = 2 ∨ i = 3 ∨ i = 4 ∨ i = 5 ∨ i = 6) with rfl | rfl | rfl | rfl | rfl | rfl | rfl
      · obtain rfl := Option.some.inj ho
        have e4 := hF.ev 4 (by kernel_rfl) rfl
        refine stepG (v := .slice ma mn mc) (s := w'.heap.size) (t := w'.heap.size) (w'' := w') ?_ ?_ ?_ ?_ ?_
        · simp [execOp, e4]
        · exact Below.refl _ _
        · exact Nat.le_refl _
        · exact Nat.le_refl _
        · exact rfl
      · obtain rfl := Option.some.inj ho
        have e1 := evTmp (hF.ev 1 (by kernel_rfl) rfl)
        refine stepG (v := .pointer (some ⟨w.heap.size, 2, none⟩)) (s := w'.heap.size) (t := w'.heap.size) (w'' := w') ?_ ?_ ?_ ?_ ?_
        · simp [execOp, e1, go_sem]
        · exact Below.refl _ _
        · exact Nat.le_refl _
        · exact Nat.le_refl _
        · exact rfl
      · obtain rfl := Option.some.inj ho
        obtain ⟨_, _, e'⟩ := hdeps ⟨1, .data⟩ (by simp) (by rfl) _ 17 rfl rfl
        have e := evTmp (show a'.eval (.tmp 17) = .pointer (some ⟨w.heap.size, 2, none⟩) from e')
        have hc : w'.cell? ⟨w.heap.size, 2, none⟩ = some (.slice ca cn cc) := by rw [(bcell hB).1 _ _ hlt2]; exact B2
        refine stepG (v := .slice ca cn cc) (s := w'.heap.size) (t := w'.heap.size) (w'' := w') ?_ ?_ ?_ ?_ ?_
        · simp [execOp, e, go_sem, hc]
        · exact Below.refl _ _
        · exact Nat.le_refl _
        · exact Nat.le_refl _
        · exact rfl
      · obtain rfl := Option.some.inj ho
        obtain ⟨_, _, e2⟩ := hdeps ⟨2, .data⟩ (by simp) (by rfl) _ 18 rfl rfl
        have e2' : a'.eval (.tmp 18) = .slice ca cn cc := e2
        refine stepGC (f := 26) (args := #[.slice ca cn cc]) (by simp [execOp, resolve, evTmp e2', Act.eval, Deferred.ofValue, invoke, go_sem]) ?_
        refine (implCopyRats ca cn cc cs w' (beRats (beRats HI.out.2.2 HB2.out hh) hB (by omega)) (by have := hB.size; omega) (by omega)).mono ?_
        rintro e w3 ⟨a1, n1, c1, rfl, ho1, hb3⟩
        obtain rfl : cn = n1 := by have h1 := ho1.len; have h2 := HLL.out; omega
        obtain ⟨s, t, k1, k2, k3, k4⟩ := ho1.headR hb3.size
        exact ⟨_, s, t, rfl, hb3, k1, k2, k2, k4, a1, c1, rfl, k3⟩
      · obtain rfl := Option.some.inj ho
        have e1 := evTmp (hF.ev 1 (by kernel_rfl) rfl)
        refine stepG (v := .pointer (some ⟨w.heap.size, 1, none⟩)) (s := w'.heap.size) (t := w'.heap.size) (w'' := w') ?_ ?_ ?_ ?_ ?_
        · simp [execOp, e1, go_sem]
        · exact Below.refl _ _
        · exact Nat.le_refl _
        · exact Nat.le_refl _
        · exact rfl
      · obtain rfl := Option.some.inj ho
        obtain ⟨_, _, e'⟩ := hdeps ⟨4, .data⟩ (by simp) (by rfl) _ 20 rfl rfl
        have e := evTmp (show a'.eval (.tmp 20) = .pointer (some ⟨w.heap.size, 1, none⟩) from e')
        have hc : w'.cell? ⟨w.heap.size, 1, none⟩ = some (.slice ba bn bc) := by rw [(bcell hB).1 _ _ hlt2]; exact B1
        refine stepG (v := .slice ba bn bc) (s := w'.heap.size) (t := w'.heap.size) (w'' := w') ?_ ?_ ?_ ?_ ?_
        · simp [execOp, e, go_sem, hc]
        · exact Below.refl _ _
        · exact Nat.le_refl _
        · exact Nat.le_refl _
        · exact rfl
      · obtain rfl := Option.some.inj ho
        obtain ⟨_, _, e2⟩ := hdeps ⟨5, .data⟩ (by simp) (by rfl) _ 21 rfl rfl
        have e2' : a'.eval (.tmp 21) = .slice ba bn bc := e2
        refine stepGC (f := 26) (args := #[.slice ba bn bc]) (by simp [execOp, resolve, evTmp e2', Act.eval, Deferred.ofValue, invoke, go_sem]) ?_
        refine (implCopyRats ba bn bc bs w' (beRats (beRats HI.out.2.1 HB2.out hh) hB (by omega)) (by have := hB.size; omega) (by omega)).mono ?_
        rintro e w3 ⟨a1, n1, c1, rfl, ho1, hb3⟩
        obtain rfl : bn = n1 := by have h1 := ho1.len; have h2 := HLL.out; omega
        obtain ⟨s, t, k1, k2, k3, k4⟩ := ho1.headR hb3.size
        exact ⟨_, s, t, rfl, hb3, k1, k2, k2, k4, a1, c1, rfl, k3⟩
    · intro a' w' s t hB hF hV hD
      obtain ⟨⟨l⟩, df⟩ := a'
      obtain rfl : df = [] := hF.1
      have hlen : l.length = 24 := hF.2.1
      match l, hlen with
      | [u0, u1, u2, u3, u4, u5, u6, u7, u8, u9, u10, u11, u12, u13, u14, u15, u16, u17, u18, u19, u20, u21, u22, u23], _ =>
        have e2 : u2 = .pointer (some ⟨w.heap.size + 1, 0, none⟩) := hF.at 2 (by kernel_rfl)
        obtain ⟨_, _, e16⟩ := hV 0 _ 16 (by omega) rfl rfl
        obtain ⟨hs4, ht4, _, _, a4, c4, e20, r4⟩ := hV 3 _ 19 (by omega) rfl rfl
        obtain ⟨hs8, ht8, _, _, a8, c8, e24, r8⟩ := hV 6 _ 22 (by omega) rfl rfl
        replace e16 : u16 = .slice ma mn mc := e16
        replace e20 : u19 = .slice a4 cn c4 := e20
        replace e24 : u22 = .slice a8 bn c8 := e24
        subst e2; subst e16; subst e20; subst e24
        have Q0' : w'.cell? ⟨w.heap.size + 1, 0, none⟩ = some (.slice none 0 0) := by rw [(bcell hB).1 _ _ hlt2']; exact Q0
        have Q1' : w'.cell? ⟨w.heap.size + 1, 1, none⟩ = some (.slice none 0 0) := by rw [(bcell hB).1 _ _ hlt2']; exact Q1
        have Q2' : w'.cell? ⟨w.heap.size + 1, 2, none⟩ = some (.slice none 0 0) := by rw [(bcell hB).1 _ _ hlt2']; exact Q2
        have F0' : w'.frozen? ⟨w.heap.size + 1, 0, none⟩ = false := by rw [(bcell hB).2 _ _ hlt2']; exact F0
        have F1' : w'.frozen? ⟨w.heap.size + 1, 1, none⟩ = false := by rw [(bcell hB).2 _ _ hlt2']; exact F1
        have F2' : w'.frozen? ⟨w.heap.size + 1, 2, none⟩ = false := by rw [(bcell hB).2 _ _ hlt2']; exact F2
        have HD48 := hid (hD 3 6 (by omega) (by omega) (by omega))
        have HR := hid (And.intro r4 (And.intro r8 (And.intro (And.intro hs4 ht4) (And.intro hs8 ht8))))
        have HBB := hid hB
        clear hV hD hF r4 r8 hs4 ht4 hs8 ht8 hB Q0 Q1 Q2 F0 F1 F2
        change wpList _ _ _ [_, _, _] _ _
        go_wp2
        have hzz := HBB.out.size
        refine bodyPost_ret (v := .tuple #[lpV ma mn mc a4 cn c4 a8 bn c8, .bool true]) (by simp [results, Try.results9, go_sem, Q0', Q1', Q2']) rfl ⟨_, _, _, _, _, _, _, _, _, by rw [H1.out], ?_, ?_⟩
        · have hset : ∀ lo hi, w.heap.size + 1 < lo → Keeps lo hi w' (((w'.setCell ⟨w.heap.size + 1, 0, none⟩ (.slice ma mn mc)).setCell ⟨w.heap.size + 1, 1, none⟩ (.slice a4 cn c4)).setCell ⟨w.heap.size + 1, 2, none⟩ (.slice a8 bn c8)) := fun lo hi h => Keeps.sc (Keeps.sc (Keeps.sc (Keeps.refl _ _ _) (.inl h) _) (.inl h) _) (.inl h) _
          have hk : ∀ {α : Type} (x y : α), (if lpOK xs bs cs = true then x else y) = x := fun x y => if_pos H1.out
          refine ⟨w1.heap.size, w2.heap.size, s 3, t 3, s 6, t 6, ?_, ?_, ?_, ?_, ?_, ?_, ?_⟩
          · have h1 : MatS w1.heap.size w2.heap.size w2 ma mn mc (dualA xs bs cs) := by unfold dualA; rw [hk, HLL.out.2.2]; exact HO2.out
            exact SepA.keep ratsQOK (SepA.keep ratsQOK h1 (Keeps.of_below HBB.out (Nat.le_refl _))) (hset _ _ (by omega))
          · have h1 : RatsA true (s 3) (t 3) w' a4 cn c4 (dualB xs bs cs) := by unfold dualB; rw [hk]; exact HR.out.1
            exact kpRats h1 (hset _ _ (by have := HR.out.2.2.1; omega))
          · have h1 : RatsA true (s 6) (t 6) w' a8 bn c8 (dualC xs bs cs) := by unfold dualC; rw [hk]; exact HR.out.2.1
            exact kpRats h1 (hset _ _ (by have := HR.out.2.2.2; omega))
          · have := HR.out.2.2; simp only [sz_set]; omega
          · have := HR.out.2.2; omega
          · have := HR.out.2.2; omega
          · exact HD48.out
        · have hq := HB2.out.trans (HBB.out.mono (by omega)); exact (by repeat (first | assumption | exact Below.refl _ _ | refine below_drewN ?_ _ | refine below_drew1 ?_ | refine Below.al ?_ (by first | exact Nat.le_refl _ | omega | (simp; done) | (simp; omega)) _ | refine Below.setCell ?_ (by first | exact Nat.le_refl _ | omega | (simp; done) | (simp; omega)) _))
end Go.Proofs.Ytgannpmngkgejaa
