/- Linear programs as results: the words of the law's walk. -/
import Derived.Test.YtgannpmngkgejaaR17
namespace Go.Proofs.Ytgannpmngkgejaa
set_option linter.unusedSimpArgs false
set_option linter.unusedVariables false
open Go.RowKit
section
variable {lo hi B lo' : Nat} {w w' : World} {a : Option Addr} {n c : Nat} {xs : List (List RatD)} {ba : Option Addr} {bn bc : Nat} {bs : List RatD} {ca : Option Addr} {cn cc : Nat} {cs : List RatD}
theorem kpLPS (h : LPS lo hi w a n c xs ba bn bc bs ca cn cc cs) (hb : Keeps lo hi w w') : LPS lo hi w' a n c xs ba bn bc bs ca cn cc cs := by
  obtain ⟨s0, t0, s1, t1, s2, t2, h0, h1, h2, h3, h4⟩ := h
  exact ⟨s0, t0, s1, t1, s2, t2, SepA.keep ratsQOK h0 (hb.mono (by omega) (by omega)), kpRats h1 (hb.mono (by omega) (by omega)), kpRats h2 (hb.mono (by omega) (by omega)), h3, h4⟩
theorem beLPS (h : LPS lo hi w a n c xs ba bn bc bs ca cn cc cs) (hb : Below B w w') (hh : hi ≤ B) : LPS lo hi w' a n c xs ba bn bc bs ca cn cc cs := kpLPS h (Keeps.of_below hb hh)
theorem wdLPS (h : LPS lo hi w a n c xs ba bn bc bs ca cn cc cs) (hl : lo' ≤ lo) : LPS lo' hi w a n c xs ba bn bc bs ca cn cc cs := by
  obtain ⟨s0, t0, s1, t1, s2, t2, h0, h1, h2, h3, h4⟩ := h
  exact ⟨s0, t0, s1, t1, s2, t2, h0, h1, h2, by omega, h4⟩
end
def GvLPR (w : World) (xs : List (List RatD)) (bs cs : List RatD) (ok : Bool) (e : Ending) (w' : World) : Prop :=
  ∃ a n c ba bn bc ca cn cc, e = .returned (.tuple #[lpV a n c ba bn bc ca cn cc, .bool ok]) ∧ LPA true w.heap.size w'.heap.size w' a n c xs ba bn bc bs ca cn cc cs ∧ Below w.heap.size w w'
theorem GvLPB.read {w : World} {xs : List (List RatD)} {bs cs : List RatD} {ok : Bool} {e : Ending} {w' : World} (h : GvLPB w xs bs cs ok e w') : GvLPR w xs bs cs ok e w' := by
  obtain ⟨a, n, c, ba, bn, bc, ca, cn, cc, h1, h2, h3⟩ := h
  exact ⟨a, n, c, ba, bn, bc, ca, cn, cc, h1, h2.lp, h3⟩
theorem mlens_le {L : List (List RatD)} {m : Nat} (h : ∀ i, i < L.length → (mx L i).length ≤ m) (j : Nat) (hj : j ≤ L.length) : mlens L j ≤ j * m := by
  induction j with
  | zero => simp [mlens]
  | succ j ih =>
    have := ih (by omega); have h1 := h j (by omega)
    simp only [mlens, Nat.add_mul, Nat.one_mul]; omega
theorem dual_sz (xs : List (List RatD)) (bs cs : List RatD) : szLP (dualA xs bs cs) (dualB xs bs cs) (dualC xs bs cs) ≤ 1048576 := by
  cases h : lpOK xs bs cs with
  | false => simp [dualA, dualB, dualC, h, szLP, matSz, mlens]
  | true =>
    have hl := lp_len h
    simp only [dualA, dualB, dualC, h, if_true]
    unfold szLP matSz
    have h1 := mlens_le (L := trTo xs cs.length) (m := 5) (fun i hi => by
      rw [trTo_len] at hi
      have : mx (trTo xs cs.length) i = colTo xs i xs.length := by simp [mx, trTo, hi]
      rw [this, colTo_len]; omega) _ (Nat.le_refl _)
    rw [trTo_len] at h1 ⊢
    omega
end Go.Proofs.Ytgannpmngkgejaa
