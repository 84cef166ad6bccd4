/- Walks: the reference's copy of an iterator. Written by iters3.py. -/
import Derived.Test.YthochdlbmaiclaaIC3
import Derived.Deep.DeepCutAuto
import Derived.Deep.CutBlock
namespace Go.Proofs.Ythochdlbmaiclaa
set_option linter.unusedSimpArgs false
set_option linter.unusedVariables false
open Go.RowKit
set_option maxRecDepth 100000 in
set_option maxHeartbeats 12800000 in
theorem specCopyItX {fz : Bool} {lo hi : Nat} (ar : Int) (a : Option Addr) (n c : Nat) (rows : List (List Int)) (la : Option Addr) (ln lc : Nat) (lw : List Int) (ga : Option Addr) (gn gc : Nat) (gh : List Int) (pa : Option Addr) (pn pc : Nat) (ps : List Int) (w : World) (hI : IterA fz lo hi w ar a n c rows la ln lc lw ga gn gc gh pa pn pc ps) (hh : hi ≤ w.heap.size) (hs : szIter rows lw gh ps ≤ 1048576) :
    Calls Try.prog 29 #[iterV ar a n c la ln lc ga gn gc pa pn pc] w (GvIterX w ar rows lw gh ps) := by
  have hl1 := hI.2.1.len; have hl2 := hI.2.2.1.len; have hl3 := hI.2.2.2.len
  have hsz : rowsSz rows ≤ 1048576 ∧ ln ≤ 1048576 ∧ gn ≤ 1048576 ∧ pn ≤ 1048576 := by unfold szIter at hs; omega
  clear hl1 hl2 hl3 hs
  obtain ⟨W, hW⟩ : ∃ W, W = (w.alloc (.cells #[.int .i64 ar, .slice a n c, .slice la ln lc, .slice ga gn gc, .slice pa pn pc] 29)).alloc (.cells #[.int .i64 0, .slice none 0 0, .slice none 0 0, .slice none 0 0, .slice none 0 0] 29) := ⟨_, rfl⟩
  have hBW : Below w.heap.size w W := by rw [hW]; exact (by repeat (first | with_reducible assumption | with_reducible exact Below.refl _ _ | with_reducible refine below_drewN ?_ _ | with_reducible refine Below.al ?_ (by first | with_reducible exact Nat.le_refl _ | omega | (simp; done) | (simp; omega) | exact Nat.le_refl _) _ | with_reducible refine Below.setCell ?_ (by first | with_reducible exact Nat.le_refl _ | omega | (simp; done) | (simp; omega) | exact Nat.le_refl _) _ | assumption | exact Below.refl _ _ | refine below_drewN ?_ _ | refine Below.al ?_ (by first | with_reducible exact Nat.le_refl _ | omega | (simp; done) | (simp; omega) | exact Nat.le_refl _) _ | refine Below.setCell ?_ (by first | with_reducible exact Nat.le_refl _ | omega | (simp; done) | (simp; omega) | exact Nat.le_refl _) _))
  have hz : W.heap.size = w.heap.size + 2 := by rw [hW]; simp
  have c0 : W.cell? ⟨w.heap.size, 0, none⟩ = some (.int .i64 ar) := by rw [hW]; first | (go_simp; done) | (simp [World.cell?]; done)
  have c1 : W.cell? ⟨w.heap.size, 1, none⟩ = some (.slice a n c) := by rw [hW]; first | (go_simp; done) | (simp [World.cell?]; done)
  have c2 : W.cell? ⟨w.heap.size, 2, none⟩ = some (.slice la ln lc) := by rw [hW]; first | (go_simp; done) | (simp [World.cell?]; done)
  have c3 : W.cell? ⟨w.heap.size, 3, none⟩ = some (.slice ga gn gc) := by rw [hW]; first | (go_simp; done) | (simp [World.cell?]; done)
  have c4 : W.cell? ⟨w.heap.size, 4, none⟩ = some (.slice pa pn pc) := by rw [hW]; first | (go_simp; done) | (simp [World.cell?]; done)
  have q0 : W.cell? ⟨w.heap.size + 1, 0, none⟩ = some (.int .i64 0) := by rw [hW]; first | (go_simp; done) | (simp [World.cell?]; done)
  have f0 : W.frozen? ⟨w.heap.size + 1, 0, none⟩ = false := by rw [hW]; first | (go_simp; done) | (simp [World.frozen?]; done)
  have q1 : W.cell? ⟨w.heap.size + 1, 1, none⟩ = some (.slice none 0 0) := by rw [hW]; first | (go_simp; done) | (simp [World.cell?]; done)
  have f1 : W.frozen? ⟨w.heap.size + 1, 1, none⟩ = false := by rw [hW]; first | (go_simp; done) | (simp [World.frozen?]; done)
  have q2 : W.cell? ⟨w.heap.size + 1, 2, none⟩ = some (.slice none 0 0) := by rw [hW]; first | (go_simp; done) | (simp [World.cell?]; done)
  have f2 : W.frozen? ⟨w.heap.size + 1, 2, none⟩ = false := by rw [hW]; first | (go_simp; done) | (simp [World.frozen?]; done)
  have q3 : W.cell? ⟨w.heap.size + 1, 3, none⟩ = some (.slice none 0 0) := by rw [hW]; first | (go_simp; done) | (simp [World.cell?]; done)
  have f3 : W.frozen? ⟨w.heap.size + 1, 3, none⟩ = false := by rw [hW]; first | (go_simp; done) | (simp [World.frozen?]; done)
  have q4 : W.cell? ⟨w.heap.size + 1, 4, none⟩ = some (.slice none 0 0) := by rw [hW]; first | (go_simp; done) | (simp [World.cell?]; done)
  have f4 : W.frozen? ⟨w.heap.size + 1, 4, none⟩ = false := by rw [hW]; first | (go_simp; done) | (simp [World.frozen?]; done)
  have HIW := hid (beIter hI hBW hh); have HAR := hid hI.1.1; clear hI
  have hb0 : w.heap.size < W.heap.size := by omega
  have hb1 : w.heap.size + 1 < W.heap.size := by omega
  have hhW : hi ≤ W.heap.size := by omega
  have HBW := hid hBW; have HW := hid hW; have HZ := hid hz; clear hW hBW hz
  go_enter Try.func29, Try.ntmps29
  go_upto_region 1 with fail
  rw [← HW.out]
  go_wp2_with fail
  refine (specAsRel ar a n c _).mono ?_
  rintro e w1 ⟨rfl, hb1w⟩
  have hz1 := hb1w.size
  have HB1 := hid hb1w; clear hb1w
  go_wp2_with fail
  refine (specL5 ar a n c rows _ (SlA.be intsOK HIW.out.1.2 HB1.out hhW) (by omega) hsz.1 HAR.out).mono ?_
  rintro e w2 ⟨ra, rc, rfl, hr2, hb2w⟩
  have hz2 := hb2w.size
  obtain ⟨X, hX⟩ : ∃ X, X = w2.alloc (.cells #[.int .i64 ar, .slice ra n rc] 58) := ⟨_, rfl⟩
  have hBX : Below w2.heap.size w2 X := by rw [hX]; exact (by repeat (first | with_reducible assumption | with_reducible exact Below.refl _ _ | with_reducible refine below_drewN ?_ _ | with_reducible refine Below.al ?_ (by first | with_reducible exact Nat.le_refl _ | omega | (simp; done) | (simp; omega) | exact Nat.le_refl _) _ | with_reducible refine Below.setCell ?_ (by first | with_reducible exact Nat.le_refl _ | omega | (simp; done) | (simp; omega) | exact Nat.le_refl _) _ | assumption | exact Below.refl _ _ | refine below_drewN ?_ _ | refine Below.al ?_ (by first | with_reducible exact Nat.le_refl _ | omega | (simp; done) | (simp; omega) | exact Nat.le_refl _) _ | refine Below.setCell ?_ (by first | with_reducible exact Nat.le_refl _ | omega | (simp; done) | (simp; omega) | exact Nat.le_refl _) _))
  have hzX : X.heap.size = w2.heap.size + 1 := by rw [hX]; simp
  have hbx : w2.heap.size < X.heap.size := by omega
  have x0 : X.cell? ⟨w2.heap.size, 0, none⟩ = some (.int .i64 ar) := by rw [hX]; simp
  have x1 : X.cell? ⟨w2.heap.size, 1, none⟩ = some (.slice ra n rc) := by rw [hX]; simp
  have hWX : Below W.heap.size W X := HB1.out.trans ((hb2w.mono hz1).trans (hBX.mono (by omega)))
  have HRX := hid (SepA.keep intsQOK hr2 (Keeps.of_below hBX (Nat.le_refl _)))
  have cX0 : X.cell? ⟨w.heap.size, 0, none⟩ = some (.int .i64 ar) := by rw [(bcell hWX).1 _ _ hb0]; exact c0
  have cX1 : X.cell? ⟨w.heap.size, 1, none⟩ = some (.slice a n c) := by rw [(bcell hWX).1 _ _ hb0]; exact c1
  have cX2 : X.cell? ⟨w.heap.size, 2, none⟩ = some (.slice la ln lc) := by rw [(bcell hWX).1 _ _ hb0]; exact c2
  have cX3 : X.cell? ⟨w.heap.size, 3, none⟩ = some (.slice ga gn gc) := by rw [(bcell hWX).1 _ _ hb0]; exact c3
  have cX4 : X.cell? ⟨w.heap.size, 4, none⟩ = some (.slice pa pn pc) := by rw [(bcell hWX).1 _ _ hb0]; exact c4
  have qX0 : X.cell? ⟨w.heap.size + 1, 0, none⟩ = some (.int .i64 0) := by rw [(bcell hWX).1 _ _ hb1]; exact q0
  have fX0 : X.frozen? ⟨w.heap.size + 1, 0, none⟩ = false := by rw [(bcell hWX).2 _ _ hb1]; exact f0
  have qX1 : X.cell? ⟨w.heap.size + 1, 1, none⟩ = some (.slice none 0 0) := by rw [(bcell hWX).1 _ _ hb1]; exact q1
  have fX1 : X.frozen? ⟨w.heap.size + 1, 1, none⟩ = false := by rw [(bcell hWX).2 _ _ hb1]; exact f1
  have qX2 : X.cell? ⟨w.heap.size + 1, 2, none⟩ = some (.slice none 0 0) := by rw [(bcell hWX).1 _ _ hb1]; exact q2
  have fX2 : X.frozen? ⟨w.heap.size + 1, 2, none⟩ = false := by rw [(bcell hWX).2 _ _ hb1]; exact f2
  have qX3 : X.cell? ⟨w.heap.size + 1, 3, none⟩ = some (.slice none 0 0) := by rw [(bcell hWX).1 _ _ hb1]; exact q3
  have fX3 : X.frozen? ⟨w.heap.size + 1, 3, none⟩ = false := by rw [(bcell hWX).2 _ _ hb1]; exact f3
  have qX4 : X.cell? ⟨w.heap.size + 1, 4, none⟩ = some (.slice none 0 0) := by rw [(bcell hWX).1 _ _ hb1]; exact q4
  have fX4 : X.frozen? ⟨w.heap.size + 1, 4, none⟩ = false := by rw [(bcell hWX).2 _ _ hb1]; exact f4
  have HIX := hid (beIter HIW.out hWX hhW)
  have hX0 : w.heap.size < X.heap.size := by omega
  have hX1 : w.heap.size + 1 < X.heap.size := by omega
  have hhX : hi ≤ X.heap.size := by omega
  have HWX := hid hWX; have HX := hid hX; clear hX hBX hWX hr2 hb2w c0 q0 f0 c1 q1 f1 c2 q2 f2 c3 q3 f3 c4 q4 f4
  go_upto_region 2 with fail
  rw [← HX.out]
  refine wp_region_grow (n := 17) (N := 26) (by kernel_rfl) (by kernel_rfl) (by rfl)
    (vp [pEq (.pointer (some ⟨w2.heap.size, 0, none⟩)), pEq (.int .i64 ar), pEq (.pointer (some ⟨w2.heap.size, 1, none⟩)), pEq (.slice ra n rc), pEq (.agg #[.int .i64 ar, .slice ra n rc]), pEmp 3, pEq (.pointer (some ⟨w.heap.size, 2, none⟩)), pEq (.slice la ln lc), pDat intsX ln lw, pEmp 3, pEq (.pointer (some ⟨w.heap.size, 3, none⟩)), pEq (.slice ga gn gc), pDat intsX gn gh, pEmp 3, pEq (.pointer (some ⟨w.heap.size, 4, none⟩)), pEq (.slice pa pn pc), pDat intsX pn ps])
    (stab_vp (by
      intro p hp
      simp only [List.mem_cons, List.not_mem_nil, or_false] at hp
      rcases hp with rfl | rfl | rfl | rfl | rfl | rfl | rfl | rfl | rfl | rfl | rfl | rfl | rfl | rfl | rfl | rfl | rfl <;> first | exact pEq_st _ | exact pEmp_st _ | exact pDat_st intsXOK _ _)) ?_ ?_
  · intro i o hi ho a' w' hB hF hdeps
    rcases (by omega : i = 0 ∨ i = 1 ∨ i = 2 ∨ i = 3 ∨ i = 4 ∨ i = 5 ∨ i = 6 ∨ i = 7 ∨ i = 8 ∨ i = 9 ∨ i = 10 ∨ i = 11 ∨ i = 12 ∨ i = 13 ∨ i = 14 ∨ i = 15 ∨ i = 16) with rfl | rfl | rfl | rfl | rfl | rfl | rfl | rfl | rfl | rfl | rfl | rfl | rfl | rfl | rfl | rfl | rfl
    · obtain rfl := Option.some.inj ho
      have e1 := evTmp (hF.ev 3 (by kernel_rfl) rfl)
      refine stepG (v := .pointer (some ⟨w2.heap.size, 0, none⟩)) (s := w'.heap.size) (t := w'.heap.size) (w'' := w') ?_ ?_ ?_ ?_ ?_
      · simp [execOp, e1, go_sem]
      · exact Below.refl _ _
      · exact Nat.le_refl _
      · exact Nat.le_refl _
      · exact rfl
    · obtain rfl := Option.some.inj ho
      obtain ⟨_, _, e'⟩ := hdeps ⟨0, .data⟩ (by simp) (by rfl) _ 8 rfl rfl
      have e := evTmp (show a'.eval (.tmp 8) = .pointer (some ⟨w2.heap.size, 0, none⟩) from e')
      have hc : w'.cell? ⟨w2.heap.size, 0, none⟩ = some (.int .i64 ar) := by rw [(bcell hB).1 _ _ hbx]; exact x0
      refine stepG (v := .int .i64 ar) (s := w'.heap.size) (t := w'.heap.size) (w'' := w') ?_ ?_ ?_ ?_ ?_
      · simp [execOp, e, go_sem, hc]
      · exact Below.refl _ _
      · exact Nat.le_refl _
      · exact Nat.le_refl _
      · exact rfl
    · obtain rfl := Option.some.inj ho
      have e1 := evTmp (hF.ev 3 (by kernel_rfl) rfl)
      refine stepG (v := .pointer (some ⟨w2.heap.size, 1, none⟩)) (s := w'.heap.size) (t := w'.heap.size) (w'' := w') ?_ ?_ ?_ ?_ ?_
      · simp [execOp, e1, go_sem]
      · exact Below.refl _ _
      · exact Nat.le_refl _
      · exact Nat.le_refl _
      · exact rfl
    · obtain rfl := Option.some.inj ho
      obtain ⟨_, _, e'⟩ := hdeps ⟨2, .data⟩ (by simp) (by rfl) _ 10 rfl rfl
      have e := evTmp (show a'.eval (.tmp 10) = .pointer (some ⟨w2.heap.size, 1, none⟩) from e')
      have hc : w'.cell? ⟨w2.heap.size, 1, none⟩ = some (.slice ra n rc) := by rw [(bcell hB).1 _ _ hbx]; exact x1
      refine stepG (v := .slice ra n rc) (s := w'.heap.size) (t := w'.heap.size) (w'' := w') ?_ ?_ ?_ ?_ ?_
      · simp [execOp, e, go_sem, hc]
      · exact Below.refl _ _
      · exact Nat.le_refl _
      · exact Nat.le_refl _
      · exact rfl
    · obtain rfl := Option.some.inj ho
      obtain ⟨_, _, e5⟩ := hdeps ⟨1, .data⟩ (by simp) (by rfl) _ 9 rfl rfl
      obtain ⟨_, _, e9⟩ := hdeps ⟨3, .data⟩ (by simp) (by rfl) _ 11 rfl rfl
      have e5' : a'.eval (.tmp 9) = .int .i64 ar := e5
      have e9' : a'.eval (.tmp 11) = .slice ra n rc := e9
      refine stepG (v := .agg #[.int .i64 ar, .slice ra n rc]) (s := w'.heap.size) (t := w'.heap.size) (w'' := w') ?_ ?_ ?_ ?_ ?_
      · simp [execOp, evTmp e5', evTmp e9', Act.eval, go_sem]
      · exact Below.refl _ _
      · exact Nat.le_refl _
      · exact Nat.le_refl _
      · rfl
    · obtain rfl := Option.some.inj ho
      refine stepG (v := .slice (some ⟨w'.heap.size, 0, none⟩) 0 0) (s := w'.heap.size) (t := w'.heap.size) (w'' := w'.alloc (.cells #[] 3)) ?_ ?_ ?_ ?_ ?_
      · simp [execOp, go_sem]
      · exact (by repeat (first | with_reducible assumption | with_reducible exact Below.refl _ _ | with_reducible refine below_drewN ?_ _ | with_reducible refine Below.al ?_ (by first | with_reducible exact Nat.le_refl _ | omega | (simp; done) | (simp; omega) | exact Nat.le_refl _) _ | with_reducible refine Below.setCell ?_ (by first | with_reducible exact Nat.le_refl _ | omega | (simp; done) | (simp; omega) | exact Nat.le_refl _) _ | assumption | exact Below.refl _ _ | refine below_drewN ?_ _ | refine Below.al ?_ (by first | with_reducible exact Nat.le_refl _ | omega | (simp; done) | (simp; omega) | exact Nat.le_refl _) _ | refine Below.setCell ?_ (by first | with_reducible exact Nat.le_refl _ | omega | (simp; done) | (simp; omega) | exact Nat.le_refl _) _))
      · exact Nat.le_refl _
      · simp
      · exact ⟨w'.heap.size, rfl, heap_alloc_new _ _⟩
    · obtain rfl := Option.some.inj ho
      have e1 := evTmp (hF.ev 1 (by kernel_rfl) rfl)
      refine stepG (v := .pointer (some ⟨w.heap.size, 2, none⟩)) (s := w'.heap.size) (t := w'.heap.size) (w'' := w') ?_ ?_ ?_ ?_ ?_
      · simp [execOp, e1, go_sem]
      · exact Below.refl _ _
      · exact Nat.le_refl _
      · exact Nat.le_refl _
      · exact rfl
    · obtain rfl := Option.some.inj ho
      obtain ⟨_, _, e'⟩ := hdeps ⟨6, .data⟩ (by simp) (by rfl) _ 14 rfl rfl
      have e := evTmp (show a'.eval (.tmp 14) = .pointer (some ⟨w.heap.size, 2, none⟩) from e')
      have hc : w'.cell? ⟨w.heap.size, 2, none⟩ = some (.slice la ln lc) := by rw [(bcell hB).1 _ _ hX0]; exact cX2
      refine stepG (v := .slice la ln lc) (s := w'.heap.size) (t := w'.heap.size) (w'' := w') ?_ ?_ ?_ ?_ ?_
      · simp [execOp, e, go_sem, hc]
      · exact Below.refl _ _
      · exact Nat.le_refl _
      · exact Nat.le_refl _
      · exact rfl
    · obtain rfl := Option.some.inj ho
      obtain ⟨_, _, g, e1, hg⟩ := hdeps ⟨5, .data⟩ (by simp) (by rfl) _ 13 rfl rfl
      obtain ⟨_, _, e2⟩ := hdeps ⟨7, .data⟩ (by simp) (by rfl) _ 15 rfl rfl
      have e1' : a'.eval (.tmp 13) = .slice (some ⟨g, 0, none⟩) 0 0 := e1
      have e2' : a'.eval (.tmp 15) = .slice la ln lc := e2
      obtain ⟨a1, c1, w3, s, t, hr, hb3, k1, k2, k3, k4⟩ := run_append_ints 27 g hg la ln lc lw (HIX.out.2.1.be hB hhX) (by omega)
      refine stepG (v := .slice a1 ln c1) (s := s) (t := t) (w'' := w3) ?_ hb3 k1 k2 ⟨k2, k4, a1, c1, rfl, k3⟩
      simp [execOp, resolve, invoke, builtin, e1', e2', hr, Result.andThen]
    · obtain rfl := Option.some.inj ho
      refine stepG (v := .slice (some ⟨w'.heap.size, 0, none⟩) 0 0) (s := w'.heap.size) (t := w'.heap.size) (w'' := w'.alloc (.cells #[] 3)) ?_ ?_ ?_ ?_ ?_
      · simp [execOp, go_sem]
      · exact (by repeat (first | with_reducible assumption | with_reducible exact Below.refl _ _ | with_reducible refine below_drewN ?_ _ | with_reducible refine Below.al ?_ (by first | with_reducible exact Nat.le_refl _ | omega | (simp; done) | (simp; omega) | exact Nat.le_refl _) _ | with_reducible refine Below.setCell ?_ (by first | with_reducible exact Nat.le_refl _ | omega | (simp; done) | (simp; omega) | exact Nat.le_refl _) _ | assumption | exact Below.refl _ _ | refine below_drewN ?_ _ | refine Below.al ?_ (by first | with_reducible exact Nat.le_refl _ | omega | (simp; done) | (simp; omega) | exact Nat.le_refl _) _ | refine Below.setCell ?_ (by first | with_reducible exact Nat.le_refl _ | omega | (simp; done) | (simp; omega) | exact Nat.le_refl _) _))
      · exact Nat.le_refl _
      · simp
      · exact ⟨w'.heap.size, rfl, heap_alloc_new _ _⟩
    · obtain rfl := Option.some.inj ho
      have e1 := evTmp (hF.ev 1 (by kernel_rfl) rfl)
      refine stepG (v := .pointer (some ⟨w.heap.size, 3, none⟩)) (s := w'.heap.size) (t := w'.heap.size) (w'' := w') ?_ ?_ ?_ ?_ ?_
      · simp [execOp, e1, go_sem]
      · exact Below.refl _ _
      · exact Nat.le_refl _
      · exact Nat.le_refl _
      · exact rfl
    · obtain rfl := Option.some.inj ho
      obtain ⟨_, _, e'⟩ := hdeps ⟨10, .data⟩ (by simp) (by rfl) _ 18 rfl rfl
      have e := evTmp (show a'.eval (.tmp 18) = .pointer (some ⟨w.heap.size, 3, none⟩) from e')
      have hc : w'.cell? ⟨w.heap.size, 3, none⟩ = some (.slice ga gn gc) := by rw [(bcell hB).1 _ _ hX0]; exact cX3
      refine stepG (v := .slice ga gn gc) (s := w'.heap.size) (t := w'.heap.size) (w'' := w') ?_ ?_ ?_ ?_ ?_
      · simp [execOp, e, go_sem, hc]
      · exact Below.refl _ _
      · exact Nat.le_refl _
      · exact Nat.le_refl _
      · exact rfl
    · obtain rfl := Option.some.inj ho
      obtain ⟨_, _, g, e1, hg⟩ := hdeps ⟨9, .data⟩ (by simp) (by rfl) _ 17 rfl rfl
      obtain ⟨_, _, e2⟩ := hdeps ⟨11, .data⟩ (by simp) (by rfl) _ 19 rfl rfl
      have e1' : a'.eval (.tmp 17) = .slice (some ⟨g, 0, none⟩) 0 0 := e1
      have e2' : a'.eval (.tmp 19) = .slice ga gn gc := e2
      obtain ⟨a1, c1, w3, s, t, hr, hb3, k1, k2, k3, k4⟩ := run_append_ints 27 g hg ga gn gc gh (HIX.out.2.2.1.be hB hhX) (by omega)
      refine stepG (v := .slice a1 gn c1) (s := s) (t := t) (w'' := w3) ?_ hb3 k1 k2 ⟨k2, k4, a1, c1, rfl, k3⟩
      simp [execOp, resolve, invoke, builtin, e1', e2', hr, Result.andThen]
    · obtain rfl := Option.some.inj ho
      refine stepG (v := .slice (some ⟨w'.heap.size, 0, none⟩) 0 0) (s := w'.heap.size) (t := w'.heap.size) (w'' := w'.alloc (.cells #[] 3)) ?_ ?_ ?_ ?_ ?_
      · simp [execOp, go_sem]
      · exact (by repeat (first | with_reducible assumption | with_reducible exact Below.refl _ _ | with_reducible refine below_drewN ?_ _ | with_reducible refine Below.al ?_ (by first | with_reducible exact Nat.le_refl _ | omega | (simp; done) | (simp; omega) | exact Nat.le_refl _) _ | with_reducible refine Below.setCell ?_ (by first | with_reducible exact Nat.le_refl _ | omega | (simp; done) | (simp; omega) | exact Nat.le_refl _) _ | assumption | exact Below.refl _ _ | refine below_drewN ?_ _ | refine Below.al ?_ (by first | with_reducible exact Nat.le_refl _ | omega | (simp; done) | (simp; omega) | exact Nat.le_refl _) _ | refine Below.setCell ?_ (by first | with_reducible exact Nat.le_refl _ | omega | (simp; done) | (simp; omega) | exact Nat.le_refl _) _))
      · exact Nat.le_refl _
      · simp
      · exact ⟨w'.heap.size, rfl, heap_alloc_new _ _⟩
    · obtain rfl := Option.some.inj ho
      have e1 := evTmp (hF.ev 1 (by kernel_rfl) rfl)
      refine stepG (v := .pointer (some ⟨w.heap.size, 4, none⟩)) (s := w'.heap.size) (t := w'.heap.size) (w'' := w') ?_ ?_ ?_ ?_ ?_
      · simp [execOp, e1, go_sem]
      · exact Below.refl _ _
      · exact Nat.le_refl _
      · exact Nat.le_refl _
      · exact rfl
    · obtain rfl := Option.some.inj ho
      obtain ⟨_, _, e'⟩ := hdeps ⟨14, .data⟩ (by simp) (by rfl) _ 22 rfl rfl
      have e := evTmp (show a'.eval (.tmp 22) = .pointer (some ⟨w.heap.size, 4, none⟩) from e')
      have hc : w'.cell? ⟨w.heap.size, 4, none⟩ = some (.slice pa pn pc) := by rw [(bcell hB).1 _ _ hX0]; exact cX4
      refine stepG (v := .slice pa pn pc) (s := w'.heap.size) (t := w'.heap.size) (w'' := w') ?_ ?_ ?_ ?_ ?_
      · simp [execOp, e, go_sem, hc]
      · exact Below.refl _ _
      · exact Nat.le_refl _
      · exact Nat.le_refl _
      · exact rfl
    · obtain rfl := Option.some.inj ho
      obtain ⟨_, _, g, e1, hg⟩ := hdeps ⟨13, .data⟩ (by simp) (by rfl) _ 21 rfl rfl
      obtain ⟨_, _, e2⟩ := hdeps ⟨15, .data⟩ (by simp) (by rfl) _ 23 rfl rfl
      have e1' : a'.eval (.tmp 21) = .slice (some ⟨g, 0, none⟩) 0 0 := e1
      have e2' : a'.eval (.tmp 23) = .slice pa pn pc := e2
      obtain ⟨a1, c1, w3, s, t, hr, hb3, k1, k2, k3, k4⟩ := run_append_ints 27 g hg pa pn pc ps (HIX.out.2.2.2.be hB hhX) (by omega)
      refine stepG (v := .slice a1 pn c1) (s := s) (t := t) (w'' := w3) ?_ hb3 k1 k2 ⟨k2, k4, a1, c1, rfl, k3⟩
      simp [execOp, resolve, invoke, builtin, e1', e2', hr, Result.andThen]
  · intro a' w' s t hB hF hV hD
    obtain ⟨⟨l⟩, df⟩ := a'
    obtain rfl : df = [] := hF.1
    have hlen : l.length = 26 := hF.2.1
    match l, hlen with
    | [u0, u1, u2, u3, u4, u5, u6, u7, u8, u9, u10, u11, u12, u13, u14, u15, u16, u17, u18, u19, u20, u21, u22, u23, u24, u25], _ =>
      have e2 : u2 = .pointer (some ⟨w.heap.size + 1, 0, none⟩) := hF.at 2 (by kernel_rfl)
      obtain ⟨_, _, e12⟩ := hV 4 _ 12 (by omega) rfl rfl
      obtain ⟨hs8, ht8, _, _, a8, c8, e16, r8⟩ := hV 8 _ 16 (by omega) rfl rfl
      obtain ⟨hs12, ht12, _, _, a12, c12, e20, r12⟩ := hV 12 _ 20 (by omega) rfl rfl
      obtain ⟨hs16, ht16, _, _, a16, c16, e24, r16⟩ := hV 16 _ 24 (by omega) rfl rfl
      replace e12 : u12 = .agg #[.int .i64 ar, .slice ra n rc] := e12
      replace e16 : u16 = .slice a8 ln c8 := e16
      replace e20 : u20 = .slice a12 gn c12 := e20
      replace e24 : u24 = .slice a16 pn c16 := e24
      subst e12; subst e16; subst e20; subst e24; subst e2
      have Q0 : w'.cell? ⟨w.heap.size + 1, 0, none⟩ = some (.int .i64 0) := by rw [(bcell hB).1 _ _ hX1]; exact qX0
      have F0 : w'.frozen? ⟨w.heap.size + 1, 0, none⟩ = false := by rw [(bcell hB).2 _ _ hX1]; exact fX0
      have Q1 : w'.cell? ⟨w.heap.size + 1, 1, none⟩ = some (.slice none 0 0) := by rw [(bcell hB).1 _ _ hX1]; exact qX1
      have F1 : w'.frozen? ⟨w.heap.size + 1, 1, none⟩ = false := by rw [(bcell hB).2 _ _ hX1]; exact fX1
      have Q2 : w'.cell? ⟨w.heap.size + 1, 2, none⟩ = some (.slice none 0 0) := by rw [(bcell hB).1 _ _ hX1]; exact qX2
      have F2 : w'.frozen? ⟨w.heap.size + 1, 2, none⟩ = false := by rw [(bcell hB).2 _ _ hX1]; exact fX2
      have Q3 : w'.cell? ⟨w.heap.size + 1, 3, none⟩ = some (.slice none 0 0) := by rw [(bcell hB).1 _ _ hX1]; exact qX3
      have F3 : w'.frozen? ⟨w.heap.size + 1, 3, none⟩ = false := by rw [(bcell hB).2 _ _ hX1]; exact fX3
      have Q4 : w'.cell? ⟨w.heap.size + 1, 4, none⟩ = some (.slice none 0 0) := by rw [(bcell hB).1 _ _ hX1]; exact qX4
      have F4 : w'.frozen? ⟨w.heap.size + 1, 4, none⟩ = false := by rw [(bcell hB).2 _ _ hX1]; exact fX4
      have HD := hid (And.intro (hD 8 12 (by omega) (by omega) (by omega)) (And.intro (hD 8 16 (by omega) (by omega) (by omega)) (hD 12 16 (by omega) (by omega) (by omega))))
      have r0 := SepA.keep intsQOK HRX.out (Keeps.of_below hB (by omega))
      have HR := hid (And.intro r0 (And.intro r8 (And.intro r12 (And.intro r16 (And.intro (And.intro hs8 ht8) (And.intro (And.intro hs12 ht12) (And.intro hs16 ht16)))))))
      have HBB := hid hB
      clear hV hD hF r0 r8 r12 r16 hs8 ht8 hs12 ht12 hs16 ht16 hB qX0 fX0 qX1 fX1 qX2 fX2 qX3 fX3 qX4 fX4
      change wpList _ _ _ [_, _] _ _
      go_wp2
      have hzz := HBB.out.size
      refine bodyPost_ret (v := iterV ar ra n rc a8 ln c8 a12 gn c12 a16 pn c16) (by simp [results, Try.results29, go_sem, Q0, Q1, Q2, Q3, Q4]) rfl ⟨_, _, _, _, _, _, _, _, _, _, _, _, rfl, ?_, ?_⟩
      · have h1 : IterX (w.heap.size + 2) w'.heap.size w' ar ra n rc rows a8 ln c8 lw a12 gn c12 gh a16 pn c16 ps := ⟨HAR.out, w1.heap.size, w2.heap.size, _, _, _, _, _, _, HR.out.1, HR.out.2.1, HR.out.2.2.1, HR.out.2.2.2.1, by have h := HD.out; have h2 := HR.out.2.2.2.2; have h3 := HZ.out; unfold Apart4; omega⟩
        refine hgIterX (hi := w'.heap.size) (wdIterX (lo := w.heap.size + 2) (kpIterX h1 ?_) (by omega)) (by simp only [sz_set]; exact Nat.le_refl _)
        exact Keeps.sc (Keeps.sc (Keeps.sc (Keeps.sc (Keeps.sc (Keeps.refl _ _ _) (.inl (by omega)) _) (.inl (by omega)) _) (.inl (by omega)) _) (.inl (by omega)) _) (.inl (by omega)) _
      · have hq := HBW.out.trans ((HWX.out.trans (HBB.out.mono (by omega))).mono (by omega)); exact (by repeat (first | with_reducible assumption | with_reducible exact Below.refl _ _ | with_reducible refine below_drewN ?_ _ | with_reducible refine below_drew1 ?_ | with_reducible refine Below.al ?_ (by first | with_reducible exact Nat.le_refl _ | omega | (simp; done) | (simp; omega) | exact Nat.le_refl _) _ | with_reducible refine Below.setCell ?_ (by first | with_reducible exact Nat.le_refl _ | omega | (simp; done) | (simp; omega) | exact Nat.le_refl _) _ | assumption | exact Below.refl _ _ | refine below_drewN ?_ _ | refine below_drew1 ?_ | refine Below.al ?_ (by first | with_reducible exact Nat.le_refl _ | omega | (simp; done) | (simp; omega) | exact Nat.le_refl _) _ | refine Below.setCell ?_ (by first | with_reducible exact Nat.le_refl _ | omega | (simp; done) | (simp; omega) | exact Nat.le_refl _) _))
theorem specCopyIt {fz : Bool} {lo hi : Nat} (ar : Int) (a : Option Addr) (n c : Nat) (rows : List (List Int)) (la : Option Addr) (ln lc : Nat) (lw : List Int) (ga : Option Addr) (gn gc : Nat) (gh : List Int) (pa : Option Addr) (pn pc : Nat) (ps : List Int) (w : World) (hI : IterA fz lo hi w ar a n c rows la ln lc lw ga gn gc gh pa pn pc ps) (hh : hi ≤ w.heap.size) (hs : szIter rows lw gh ps ≤ 1048576) :
    Calls Try.prog 29 #[iterV ar a n c la ln lc ga gn gc pa pn pc] w (GvIterS w ar rows lw gh ps) := (specCopyItX ar a n c rows la ln lc lw ga gn gc gh pa pn pc ps w hI hh hs).mono fun _ _ h => h.s
end Go.Proofs.Ythochdlbmaiclaa
