/- Walks: NewIterator on both sides. Written by iters5.py. -/
import Derived.Test.YthochdlbmaiclaaIC4
import Derived.Test.YthochdlbmaiclaaQ7
import Derived.Test.YthochdlbmaiclaaQ8
namespace Go.Proofs.Ythochdlbmaiclaa
set_option linter.unusedSimpArgs false
set_option linter.unusedVariables false
open Go.RowKit
/-- The call returns an iterator whose parts lie apart and a word; nothing that was there has turned. -/
def GvItB (w : World) (ar : Int) (rows : List (List Int)) (lw gh ps : List Int) (ok : Bool) (e : Ending) (w' : World) : Prop :=
  ∃ a n c la ln lc ga gn gc pa pn pc, e = .returned (.tuple #[iterV ar a n c la ln lc ga gn gc pa pn pc, .bool ok]) ∧ IterS w.heap.size w'.heap.size w' ar a n c rows la ln lc lw ga gn gc gh pa pn pc ps ∧ Below w.heap.size w w'
noncomputable def niAr (ar : Int) (rows : List (List Int)) : Int := if validR ar rows = true then ar else 0
noncomputable def niRows (ar : Int) (rows : List (List Int)) : List (List Int) := if validR ar rows = true then rows else []
theorem nilInts (fz : Bool) (lo hi : Nat) (w : World) : IntsA fz lo hi w none 0 0 [] := ⟨rfl, Nat.le_refl _, by simp [maxLen], (by simp), fun h => absurd h (Nat.lt_irrefl 0), fun _ => rfl⟩
theorem nilRowsS (lo : Nat) (w : World) : RowsS lo w.heap.size w none 0 0 [] := SepA.own (e := 27) (base := lo) (ownV_nil _ _ _) (SepV.nil _ _ _ _)
theorem nilIterS (lo : Nat) (w : World) (h : lo ≤ w.heap.size) : IterS lo w.heap.size w 0 none 0 0 [] none 0 0 [] none 0 0 [] none 0 0 [] :=
  ⟨by unfold I64; omega, lo, w.heap.size, w.heap.size, w.heap.size, w.heap.size, w.heap.size, w.heap.size, w.heap.size, nilRowsS _ _, nilInts _ _ _ _, nilInts _ _ _ _, nilInts _ _ _ _, by unfold Apart4; omega⟩
set_option maxRecDepth 100000 in
set_option maxHeartbeats 12800000 in
theorem implNewIt {fz : Bool} {lo hi : Nat} (ar : Int) (a : Option Addr) (n c : Nat) (rows : List (List Int)) (w : World) (hI : RowsA fz lo hi w a n c rows) (hh : hi ≤ w.heap.size) (har : I64 ar) (hs : rowsSz rows ≤ 1048576) :
    Calls Try.prog 11 #[trieV ar a n c] w (GvItB w (niAr ar rows) (niRows ar rows) [] [] [] (validR ar rows)) := by
  have HAR := hid har; have HS := hid hs; clear har hs
  obtain ⟨W, hW⟩ : ∃ W, W = (w.alloc (.cells #[.int .i64 ar, .slice a n c] 26)).alloc (.cells #[.int .i64 0, .slice none 0 0, .slice none 0 0, .slice none 0 0, .slice none 0 0] 29) := ⟨_, rfl⟩
  have hBW : Below w.heap.size w W := by rw [hW]; exact (by repeat (first | with_reducible assumption | with_reducible exact Below.refl _ _ | with_reducible refine below_drewN ?_ _ | with_reducible refine Below.al ?_ (by first | with_reducible exact Nat.le_refl _ | omega | (simp; done) | (simp; omega) | exact Nat.le_refl _) _ | with_reducible refine Below.setCell ?_ (by first | with_reducible exact Nat.le_refl _ | omega | (simp; done) | (simp; omega) | exact Nat.le_refl _) _ | assumption | exact Below.refl _ _ | refine below_drewN ?_ _ | refine Below.al ?_ (by first | with_reducible exact Nat.le_refl _ | omega | (simp; done) | (simp; omega) | exact Nat.le_refl _) _ | refine Below.setCell ?_ (by first | with_reducible exact Nat.le_refl _ | omega | (simp; done) | (simp; omega) | exact Nat.le_refl _) _))
  have hz : W.heap.size = w.heap.size + 2 := by rw [hW]; simp
  have c0 : W.cell? ⟨w.heap.size, 0, none⟩ = some (.int .i64 ar) := by rw [hW]; first | (go_simp; done) | (simp [World.cell?]; done)
  have c1 : W.cell? ⟨w.heap.size, 1, none⟩ = some (.slice a n c) := by rw [hW]; first | (go_simp; done) | (simp [World.cell?]; done)
  have q0 : W.cell? ⟨w.heap.size + 1, 0, none⟩ = some (.int .i64 0) := by rw [hW]; first | (go_simp; done) | (simp [World.cell?]; done)
  have f0 : W.frozen? ⟨w.heap.size + 1, 0, none⟩ = false := by rw [hW]; first | (go_simp; done) | (simp [World.frozen?]; done)
  have q1 : W.cell? ⟨w.heap.size + 1, 1, none⟩ = some (.slice none 0 0) := by rw [hW]; first | (go_simp; done) | (simp [World.cell?]; done)
  have f1 : W.frozen? ⟨w.heap.size + 1, 1, none⟩ = false := by rw [hW]; first | (go_simp; done) | (simp [World.frozen?]; done)
  have q2 : W.cell? ⟨w.heap.size + 1, 2, none⟩ = some (.slice none 0 0) := by rw [hW]; first | (go_simp; done) | (simp [World.cell?]; done)
  have f2 : W.frozen? ⟨w.heap.size + 1, 2, none⟩ = false := by rw [hW]; first | (go_simp; done) | (simp [World.frozen?]; done)
  have q3 : W.cell? ⟨w.heap.size + 1, 3, none⟩ = some (.slice none 0 0) := by rw [hW]; first | (go_simp; done) | (simp [World.cell?]; done)
  have f3 : W.frozen? ⟨w.heap.size + 1, 3, none⟩ = false := by rw [hW]; first | (go_simp; done) | (simp [World.frozen?]; done)
  have q4 : W.cell? ⟨w.heap.size + 1, 4, none⟩ = some (.slice none 0 0) := by rw [hW]; first | (go_simp; done) | (simp [World.cell?]; done)
  have f4 : W.frozen? ⟨w.heap.size + 1, 4, none⟩ = false := by rw [hW]; first | (go_simp; done) | (simp [World.frozen?]; done)
  have HIW := hid (hI.be intsOK hBW hh)
  have hhW : hi ≤ W.heap.size := by omega
  have hb0 : w.heap.size < W.heap.size := by omega
  have hb1' : w.heap.size + 1 < W.heap.size := by omega
  have HBW := hid hBW; have HW := hid hW; have HZ := hid hz; clear hW hBW hz
  go_enter Try.func11, Try.ntmps11
  go_upto_region 1 with fail
  rw [← HW.out]
  go_wp2_with fail
  refine (implValidTrie ar a n c rows _ HIW.out hhW HAR.out).mono ?_
  rintro e w1 ⟨rfl, hb1⟩
  have hz := hb1.size
  have c0' : w1.cell? ⟨w.heap.size, 0, none⟩ = some (.int .i64 ar) := by rw [(bcell hb1).1 _ _ hb0]; exact c0
  have c1' : w1.cell? ⟨w.heap.size, 1, none⟩ = some (.slice a n c) := by rw [(bcell hb1).1 _ _ hb0]; exact c1
  have q0' : w1.cell? ⟨w.heap.size + 1, 0, none⟩ = some (.int .i64 0) := by rw [(bcell hb1).1 _ _ hb1']; exact q0
  have f0' : w1.frozen? ⟨w.heap.size + 1, 0, none⟩ = false := by rw [(bcell hb1).2 _ _ hb1']; exact f0
  have q1' : w1.cell? ⟨w.heap.size + 1, 1, none⟩ = some (.slice none 0 0) := by rw [(bcell hb1).1 _ _ hb1']; exact q1
  have f1' : w1.frozen? ⟨w.heap.size + 1, 1, none⟩ = false := by rw [(bcell hb1).2 _ _ hb1']; exact f1
  have q2' : w1.cell? ⟨w.heap.size + 1, 2, none⟩ = some (.slice none 0 0) := by rw [(bcell hb1).1 _ _ hb1']; exact q2
  have f2' : w1.frozen? ⟨w.heap.size + 1, 2, none⟩ = false := by rw [(bcell hb1).2 _ _ hb1']; exact f2
  have q3' : w1.cell? ⟨w.heap.size + 1, 3, none⟩ = some (.slice none 0 0) := by rw [(bcell hb1).1 _ _ hb1']; exact q3
  have f3' : w1.frozen? ⟨w.heap.size + 1, 3, none⟩ = false := by rw [(bcell hb1).2 _ _ hb1']; exact f3
  have q4' : w1.cell? ⟨w.heap.size + 1, 4, none⟩ = some (.slice none 0 0) := by rw [(bcell hb1).1 _ _ hb1']; exact q4
  have f4' : w1.frozen? ⟨w.heap.size + 1, 4, none⟩ = false := by rw [(bcell hb1).2 _ _ hb1']; exact f4
  have HB1 := hid hb1; clear hb1 c0 c1 q0 f0 q1 f1 q2 f2 q3 f3 q4 f4
  by_cases hv : validR ar rows = true
  · rw [hv]
    go_wp2_with fail
    refine (implCopyIt ar a n c rows none 0 0 [] none 0 0 [] none 0 0 [] _ ⟨⟨HAR.out, HIW.out.be intsOK HB1.out hhW⟩, nilInts _ _ _ _, nilInts _ _ _ _, nilInts _ _ _ _⟩ (by omega) (by have := HS.out; simp [szIter]; omega)).mono ?_
    rintro e w2 ⟨ra, rn, rc, la, ln, lc, ga, gn, gc, pa, pn, pc, rfl, hS, hb2⟩
    have hz2 := hb2.size
    have q0w : w2.cell? ⟨w.heap.size + 1, 0, none⟩ = some (.int .i64 0) := by rw [(bcell hb2).1 _ _ (by omega)]; exact q0'
    have f0w : w2.frozen? ⟨w.heap.size + 1, 0, none⟩ = false := by rw [(bcell hb2).2 _ _ (by omega)]; exact f0'
    have q1w : w2.cell? ⟨w.heap.size + 1, 1, none⟩ = some (.slice none 0 0) := by rw [(bcell hb2).1 _ _ (by omega)]; exact q1'
    have f1w : w2.frozen? ⟨w.heap.size + 1, 1, none⟩ = false := by rw [(bcell hb2).2 _ _ (by omega)]; exact f1'
    have q2w : w2.cell? ⟨w.heap.size + 1, 2, none⟩ = some (.slice none 0 0) := by rw [(bcell hb2).1 _ _ (by omega)]; exact q2'
    have f2w : w2.frozen? ⟨w.heap.size + 1, 2, none⟩ = false := by rw [(bcell hb2).2 _ _ (by omega)]; exact f2'
    have q3w : w2.cell? ⟨w.heap.size + 1, 3, none⟩ = some (.slice none 0 0) := by rw [(bcell hb2).1 _ _ (by omega)]; exact q3'
    have f3w : w2.frozen? ⟨w.heap.size + 1, 3, none⟩ = false := by rw [(bcell hb2).2 _ _ (by omega)]; exact f3'
    have q4w : w2.cell? ⟨w.heap.size + 1, 4, none⟩ = some (.slice none 0 0) := by rw [(bcell hb2).1 _ _ (by omega)]; exact q4'
    have f4w : w2.frozen? ⟨w.heap.size + 1, 4, none⟩ = false := by rw [(bcell hb2).2 _ _ (by omega)]; exact f4'
    have HS2 := hid hS; have HB2 := hid hb2; clear hS hb2 q0' f0' q1' f1' q2' f2' q3' f3' q4' f4'
    go_wp2
    refine bodyPost_ret (v := .tuple #[iterV ar ra rn rc la ln lc ga gn gc pa pn pc, .bool true]) (by simp [results, Try.results11, go_sem, q0w, q1w, q2w, q3w, q4w]) rfl ⟨ra, rn, rc, la, ln, lc, ga, gn, gc, pa, pn, pc, by rw [hv, show niAr ar rows = ar from if_pos hv], ?_, ?_⟩
    · have h1 : IterS w1.heap.size w2.heap.size w2 (niAr ar rows) ra rn rc (niRows ar rows) la ln lc [] ga gn gc [] pa pn pc [] := by unfold niAr niRows; rw [if_pos hv, if_pos hv]; exact HS2.out
      refine hgIterS (hi := w2.heap.size) (wdIterS (lo := w1.heap.size) (kpIterS h1 ?_) (by have := HZ.out; omega)) (by simp only [sz_set]; exact Nat.le_refl _)
      exact Keeps.sc (Keeps.sc (Keeps.sc (Keeps.sc (Keeps.sc (Keeps.refl _ _ _) (.inl (by omega)) _) (.inl (by omega)) _) (.inl (by omega)) _) (.inl (by omega)) _) (.inl (by omega)) _
    · have hq := HBW.out.trans ((HB1.out.trans (HB2.out.mono (by omega))).mono (by omega)); exact (((((hq.setCell (by simp) _).setCell (by simp) _).setCell (by simp) _).setCell (by simp) _).setCell (by simp) _)
  · have hv' : validR ar rows = false := by simpa using hv
    rw [hv']
    go_wp2
    refine bodyPost_ret (v := .tuple #[iterV 0 none 0 0 none 0 0 none 0 0 none 0 0, .bool false]) (by simp [results, Try.results11, go_sem, q0', q1', q2', q3', q4']) rfl ⟨none, 0, 0, none, 0, 0, none, 0, 0, none, 0, 0, by rw [hv', show niAr ar rows = 0 from if_neg hv], ?_, ?_⟩
    · have h1 : niAr ar rows = 0 := by unfold niAr; exact if_neg hv
      have h2 : niRows ar rows = [] := by unfold niRows; exact if_neg hv
      rw [h1, h2]
      exact nilIterS _ _ (by have := HZ.out; simp only [sz_set]; omega)
    · have hq := HBW.out.trans (HB1.out.mono (by omega)); exact (((((hq.setCell (by simp) _).setCell (by simp) _).setCell (by simp) _).setCell (by simp) _).setCell (by simp) _)
set_option maxRecDepth 100000 in
set_option maxHeartbeats 12800000 in
theorem specNewIt {fz : Bool} {lo hi : Nat} (ar : Int) (a : Option Addr) (n c : Nat) (rows : List (List Int)) (w : World) (hI : RowsA fz lo hi w a n c rows) (hh : hi ≤ w.heap.size) (har : I64 ar) (hs : rowsSz rows ≤ 1048576) :
    Calls Try.prog 9 #[trieV ar a n c] w (GvItB w (niAr ar rows) (niRows ar rows) [] [] [] (validR ar rows)) := by
  have HAR := hid har; have HS := hid hs; clear har hs
  obtain ⟨W, hW⟩ : ∃ W, W = (w.alloc (.cells #[.int .i64 ar, .slice a n c] 26)).alloc (.cells #[.int .i64 0, .slice none 0 0, .slice none 0 0, .slice none 0 0, .slice none 0 0] 29) := ⟨_, rfl⟩
  have hBW : Below w.heap.size w W := by rw [hW]; exact (by repeat (first | with_reducible assumption | with_reducible exact Below.refl _ _ | with_reducible refine below_drewN ?_ _ | with_reducible refine Below.al ?_ (by first | with_reducible exact Nat.le_refl _ | omega | (simp; done) | (simp; omega) | exact Nat.le_refl _) _ | with_reducible refine Below.setCell ?_ (by first | with_reducible exact Nat.le_refl _ | omega | (simp; done) | (simp; omega) | exact Nat.le_refl _) _ | assumption | exact Below.refl _ _ | refine below_drewN ?_ _ | refine Below.al ?_ (by first | with_reducible exact Nat.le_refl _ | omega | (simp; done) | (simp; omega) | exact Nat.le_refl _) _ | refine Below.setCell ?_ (by first | with_reducible exact Nat.le_refl _ | omega | (simp; done) | (simp; omega) | exact Nat.le_refl _) _))
  have hz : W.heap.size = w.heap.size + 2 := by rw [hW]; simp
  have c0 : W.cell? ⟨w.heap.size, 0, none⟩ = some (.int .i64 ar) := by rw [hW]; first | (go_simp; done) | (simp [World.cell?]; done)
  have c1 : W.cell? ⟨w.heap.size, 1, none⟩ = some (.slice a n c) := by rw [hW]; first | (go_simp; done) | (simp [World.cell?]; done)
  have q0 : W.cell? ⟨w.heap.size + 1, 0, none⟩ = some (.int .i64 0) := by rw [hW]; first | (go_simp; done) | (simp [World.cell?]; done)
  have f0 : W.frozen? ⟨w.heap.size + 1, 0, none⟩ = false := by rw [hW]; first | (go_simp; done) | (simp [World.frozen?]; done)
  have q1 : W.cell? ⟨w.heap.size + 1, 1, none⟩ = some (.slice none 0 0) := by rw [hW]; first | (go_simp; done) | (simp [World.cell?]; done)
  have f1 : W.frozen? ⟨w.heap.size + 1, 1, none⟩ = false := by rw [hW]; first | (go_simp; done) | (simp [World.frozen?]; done)
  have q2 : W.cell? ⟨w.heap.size + 1, 2, none⟩ = some (.slice none 0 0) := by rw [hW]; first | (go_simp; done) | (simp [World.cell?]; done)
  have f2 : W.frozen? ⟨w.heap.size + 1, 2, none⟩ = false := by rw [hW]; first | (go_simp; done) | (simp [World.frozen?]; done)
  have q3 : W.cell? ⟨w.heap.size + 1, 3, none⟩ = some (.slice none 0 0) := by rw [hW]; first | (go_simp; done) | (simp [World.cell?]; done)
  have f3 : W.frozen? ⟨w.heap.size + 1, 3, none⟩ = false := by rw [hW]; first | (go_simp; done) | (simp [World.frozen?]; done)
  have q4 : W.cell? ⟨w.heap.size + 1, 4, none⟩ = some (.slice none 0 0) := by rw [hW]; first | (go_simp; done) | (simp [World.cell?]; done)
  have f4 : W.frozen? ⟨w.heap.size + 1, 4, none⟩ = false := by rw [hW]; first | (go_simp; done) | (simp [World.frozen?]; done)
  have HIW := hid (hI.be intsOK hBW hh)
  have hhW : hi ≤ W.heap.size := by omega
  have hb0 : w.heap.size < W.heap.size := by omega
  have hb1' : w.heap.size + 1 < W.heap.size := by omega
  have HBW := hid hBW; have HW := hid hW; have HZ := hid hz; clear hW hBW hz
  go_enter Try.func9, Try.ntmps9
  go_upto_region 1 with fail
  rw [← HW.out]
  go_wp2_with fail
  refine (specValidTrie ar a n c rows _ HIW.out hhW HAR.out).mono ?_
  rintro e w1 ⟨rfl, hb1⟩
  have hz := hb1.size
  have c0' : w1.cell? ⟨w.heap.size, 0, none⟩ = some (.int .i64 ar) := by rw [(bcell hb1).1 _ _ hb0]; exact c0
  have c1' : w1.cell? ⟨w.heap.size, 1, none⟩ = some (.slice a n c) := by rw [(bcell hb1).1 _ _ hb0]; exact c1
  have q0' : w1.cell? ⟨w.heap.size + 1, 0, none⟩ = some (.int .i64 0) := by rw [(bcell hb1).1 _ _ hb1']; exact q0
  have f0' : w1.frozen? ⟨w.heap.size + 1, 0, none⟩ = false := by rw [(bcell hb1).2 _ _ hb1']; exact f0
  have q1' : w1.cell? ⟨w.heap.size + 1, 1, none⟩ = some (.slice none 0 0) := by rw [(bcell hb1).1 _ _ hb1']; exact q1
  have f1' : w1.frozen? ⟨w.heap.size + 1, 1, none⟩ = false := by rw [(bcell hb1).2 _ _ hb1']; exact f1
  have q2' : w1.cell? ⟨w.heap.size + 1, 2, none⟩ = some (.slice none 0 0) := by rw [(bcell hb1).1 _ _ hb1']; exact q2
  have f2' : w1.frozen? ⟨w.heap.size + 1, 2, none⟩ = false := by rw [(bcell hb1).2 _ _ hb1']; exact f2
  have q3' : w1.cell? ⟨w.heap.size + 1, 3, none⟩ = some (.slice none 0 0) := by rw [(bcell hb1).1 _ _ hb1']; exact q3
  have f3' : w1.frozen? ⟨w.heap.size + 1, 3, none⟩ = false := by rw [(bcell hb1).2 _ _ hb1']; exact f3
  have q4' : w1.cell? ⟨w.heap.size + 1, 4, none⟩ = some (.slice none 0 0) := by rw [(bcell hb1).1 _ _ hb1']; exact q4
  have f4' : w1.frozen? ⟨w.heap.size + 1, 4, none⟩ = false := by rw [(bcell hb1).2 _ _ hb1']; exact f4
  have HB1 := hid hb1; clear hb1 c0 c1 q0 f0 q1 f1 q2 f2 q3 f3 q4 f4
  by_cases hv : validR ar rows = true
  · rw [hv]
    go_wp2_with fail
    refine (specCopyIt ar a n c rows none 0 0 [] none 0 0 [] none 0 0 [] _ ⟨⟨HAR.out, HIW.out.be intsOK HB1.out hhW⟩, nilInts _ _ _ _, nilInts _ _ _ _, nilInts _ _ _ _⟩ (by omega) (by have := HS.out; simp [szIter]; omega)).mono ?_
    rintro e w2 ⟨ra, rn, rc, la, ln, lc, ga, gn, gc, pa, pn, pc, rfl, hS, hb2⟩
    have hz2 := hb2.size
    have q0w : w2.cell? ⟨w.heap.size + 1, 0, none⟩ = some (.int .i64 0) := by rw [(bcell hb2).1 _ _ (by omega)]; exact q0'
    have f0w : w2.frozen? ⟨w.heap.size + 1, 0, none⟩ = false := by rw [(bcell hb2).2 _ _ (by omega)]; exact f0'
    have q1w : w2.cell? ⟨w.heap.size + 1, 1, none⟩ = some (.slice none 0 0) := by rw [(bcell hb2).1 _ _ (by omega)]; exact q1'
    have f1w : w2.frozen? ⟨w.heap.size + 1, 1, none⟩ = false := by rw [(bcell hb2).2 _ _ (by omega)]; exact f1'
    have q2w : w2.cell? ⟨w.heap.size + 1, 2, none⟩ = some (.slice none 0 0) := by rw [(bcell hb2).1 _ _ (by omega)]; exact q2'
    have f2w : w2.frozen? ⟨w.heap.size + 1, 2, none⟩ = false := by rw [(bcell hb2).2 _ _ (by omega)]; exact f2'
    have q3w : w2.cell? ⟨w.heap.size + 1, 3, none⟩ = some (.slice none 0 0) := by rw [(bcell hb2).1 _ _ (by omega)]; exact q3'
    have f3w : w2.frozen? ⟨w.heap.size + 1, 3, none⟩ = false := by rw [(bcell hb2).2 _ _ (by omega)]; exact f3'
    have q4w : w2.cell? ⟨w.heap.size + 1, 4, none⟩ = some (.slice none 0 0) := by rw [(bcell hb2).1 _ _ (by omega)]; exact q4'
    have f4w : w2.frozen? ⟨w.heap.size + 1, 4, none⟩ = false := by rw [(bcell hb2).2 _ _ (by omega)]; exact f4'
    have HS2 := hid hS; have HB2 := hid hb2; clear hS hb2 q0' f0' q1' f1' q2' f2' q3' f3' q4' f4'
    go_wp2
    refine bodyPost_ret (v := .tuple #[iterV ar ra rn rc la ln lc ga gn gc pa pn pc, .bool true]) (by simp [results, Try.results9, go_sem, q0w, q1w, q2w, q3w, q4w]) rfl ⟨ra, rn, rc, la, ln, lc, ga, gn, gc, pa, pn, pc, by rw [hv, show niAr ar rows = ar from if_pos hv], ?_, ?_⟩
    · have h1 : IterS w1.heap.size w2.heap.size w2 (niAr ar rows) ra rn rc (niRows ar rows) la ln lc [] ga gn gc [] pa pn pc [] := by unfold niAr niRows; rw [if_pos hv, if_pos hv]; exact HS2.out
      refine hgIterS (hi := w2.heap.size) (wdIterS (lo := w1.heap.size) (kpIterS h1 ?_) (by have := HZ.out; omega)) (by simp only [sz_set]; exact Nat.le_refl _)
      exact Keeps.sc (Keeps.sc (Keeps.sc (Keeps.sc (Keeps.sc (Keeps.refl _ _ _) (.inl (by omega)) _) (.inl (by omega)) _) (.inl (by omega)) _) (.inl (by omega)) _) (.inl (by omega)) _
    · have hq := HBW.out.trans ((HB1.out.trans (HB2.out.mono (by omega))).mono (by omega)); exact (((((hq.setCell (by simp) _).setCell (by simp) _).setCell (by simp) _).setCell (by simp) _).setCell (by simp) _)
  · have hv' : validR ar rows = false := by simpa using hv
    rw [hv']
    go_wp2
    refine bodyPost_ret (v := .tuple #[iterV 0 none 0 0 none 0 0 none 0 0 none 0 0, .bool false]) (by simp [results, Try.results9, go_sem, q0', q1', q2', q3', q4']) rfl ⟨none, 0, 0, none, 0, 0, none, 0, 0, none, 0, 0, by rw [hv', show niAr ar rows = 0 from if_neg hv], ?_, ?_⟩
    · have h1 : niAr ar rows = 0 := by unfold niAr; exact if_neg hv
      have h2 : niRows ar rows = [] := by unfold niRows; exact if_neg hv
      rw [h1, h2]
      exact nilIterS _ _ (by have := HZ.out; simp only [sz_set]; omega)
    · have hq := HBW.out.trans (HB1.out.mono (by omega)); exact (((((hq.setCell (by simp) _).setCell (by simp) _).setCell (by simp) _).setCell (by simp) _).setCell (by simp) _)
end Go.Proofs.Ythochdlbmaiclaa
