/- Walks: whether two iterators are equal. -/
import Derived.Test.YtbgbohapbdiopaaI8
namespace Go.Proofs.Ytbgbohapbdiopaa
open Go.RowKit
noncomputable def eqIt (ar ar' : Int) (rows rows' : List (List Int)) (lw lw' gh gh' ps ps' : List Int) : Bool := eqT ar ar' rows rows' && eqL lw lw' && eqL gh gh' && eqL ps ps'
set_option maxRecDepth 100000 in
set_option maxHeartbeats 6400000 in
theorem implEqIt {fz fz' : Bool} {lo hi lo' hi' : Nat} (ar : Int) (a : Option Addr) (n : Nat) (c : Nat) (rows : List (List Int)) (la : Option Addr) (ln : Nat) (lc : Nat) (lw : List Int) (ga : Option Addr) (gn : Nat) (gc : Nat) (gh : List Int) (pa : Option Addr) (pn : Nat) (pc : Nat) (ps : List Int) (ar' : Int) (a' : Option Addr) (n' : Nat) (c' : Nat) (rows' : List (List Int)) (la' : Option Addr) (ln' : Nat) (lc' : Nat) (lw' : List Int) (ga' : Option Addr) (gn' : Nat) (gc' : Nat) (gh' : List Int) (pa' : Option Addr) (pn' : Nat) (pc' : Nat) (ps' : List Int) (w : World)
    (hI : IterA fz lo hi w ar a n c rows la ln lc lw ga gn gc gh pa pn pc ps) (hh : hi ≤ w.heap.size) (hJ : IterA fz' lo' hi' w ar' a' n' c' rows' la' ln' lc' lw' ga' gn' gc' gh' pa' pn' pc' ps') (hh' : hi' ≤ w.heap.size) :
    Calls Try.prog 11 #[iterV ar a n c la ln lc ga gn gc pa pn pc, iterV ar' a' n' c' la' ln' lc' ga' gn' gc' pa' pn' pc'] w (Leaves w (.bool (eqIt ar ar' rows rows' lw lw' gh gh' ps ps'))) := by
  obtain ⟨W, hW⟩ : ∃ W, W = (w.alloc (.cells #[.int .i64 ar, .slice a n c, .slice la ln lc, .slice ga gn gc, .slice pa pn pc] 32)).alloc (.cells #[.int .i64 ar', .slice a' n' c', .slice la' ln' lc', .slice ga' gn' gc', .slice pa' pn' pc'] 32) := ⟨_, rfl⟩
  have hBW : Below w.heap.size w W := by rw [hW]; exact (by repeat (first | assumption | exact Below.refl _ _ | refine below_drewN ?_ _ | refine Below.al ?_ (by first | exact Nat.le_refl _ | omega | (simp; done) | (simp; omega)) _ | refine Below.setCell ?_ (by first | exact Nat.le_refl _ | omega | (simp; done) | (simp; omega)) _))
  have hz : w.heap.size + 1 < W.heap.size := by rw [hW]; simp
  have c0 : ∀ x : Later W.heap.size W, x.w.cell? ⟨w.heap.size, 0, none⟩ = some (.int .i64 ar) := fun x => x.cell (by rw [hW]; first | (go_simp; done) | (simp [World.cell?]; done)) (by omega)
  have c1 : ∀ x : Later W.heap.size W, x.w.cell? ⟨w.heap.size, 1, none⟩ = some (.slice a n c) := fun x => x.cell (by rw [hW]; first | (go_simp; done) | (simp [World.cell?]; done)) (by omega)
  have c2 : ∀ x : Later W.heap.size W, x.w.cell? ⟨w.heap.size, 2, none⟩ = some (.slice la ln lc) := fun x => x.cell (by rw [hW]; first | (go_simp; done) | (simp [World.cell?]; done)) (by omega)
  have c3 : ∀ x : Later W.heap.size W, x.w.cell? ⟨w.heap.size, 3, none⟩ = some (.slice ga gn gc) := fun x => x.cell (by rw [hW]; first | (go_simp; done) | (simp [World.cell?]; done)) (by omega)
  have c4 : ∀ x : Later W.heap.size W, x.w.cell? ⟨w.heap.size, 4, none⟩ = some (.slice pa pn pc) := fun x => x.cell (by rw [hW]; first | (go_simp; done) | (simp [World.cell?]; done)) (by omega)
  have d0 : ∀ x : Later W.heap.size W, x.w.cell? ⟨w.heap.size + 1, 0, none⟩ = some (.int .i64 ar') := fun x => x.cell (by rw [hW]; first | (go_simp; done) | (simp [World.cell?]; done)) (by omega)
  have d1 : ∀ x : Later W.heap.size W, x.w.cell? ⟨w.heap.size + 1, 1, none⟩ = some (.slice a' n' c') := fun x => x.cell (by rw [hW]; first | (go_simp; done) | (simp [World.cell?]; done)) (by omega)
  have d2 : ∀ x : Later W.heap.size W, x.w.cell? ⟨w.heap.size + 1, 2, none⟩ = some (.slice la' ln' lc') := fun x => x.cell (by rw [hW]; first | (go_simp; done) | (simp [World.cell?]; done)) (by omega)
  have d3 : ∀ x : Later W.heap.size W, x.w.cell? ⟨w.heap.size + 1, 3, none⟩ = some (.slice ga' gn' gc') := fun x => x.cell (by rw [hW]; first | (go_simp; done) | (simp [World.cell?]; done)) (by omega)
  have d4 : ∀ x : Later W.heap.size W, x.w.cell? ⟨w.heap.size + 1, 4, none⟩ = some (.slice pa' pn' pc') := fun x => x.cell (by rw [hW]; first | (go_simp; done) | (simp [World.cell?]; done)) (by omega)
  have hIW := beIter hI hBW hh
  have hJW := beIter hJ hBW hh'
  have hsz : ∀ x : Later W.heap.size W, hi ≤ x.w.heap.size ∧ hi' ≤ x.w.heap.size := fun x => by have := x.size; omega
  have hIX := fun x : Later W.heap.size W => beIter hIW x.be (by omega)
  have hJX := fun x : Later W.heap.size W => beIter hJW x.be (by omega)
  obtain ⟨e1, he1⟩ : ∃ e, eqT ar ar' rows rows' = e := ⟨_, rfl⟩
  obtain ⟨e2, he2⟩ : ∃ e, eqL lw lw' = e := ⟨_, rfl⟩
  obtain ⟨e3, he3⟩ : ∃ e, eqL gh gh' = e := ⟨_, rfl⟩
  obtain ⟨e4, he4⟩ : ∃ e, eqL ps ps' = e := ⟨_, rfl⟩
  have HR := hid (fun (x : Later W.heap.size W) (r : Int) (p : Option Addr) (q s : Nat) => later_of x (Nat.le_refl _) (implAsRel r p q s x.w))
  have HC1 := hid (fun x : Later W.heap.size W => later_of x (Nat.le_refl _) (by have := implEqRel ar ar' a a' n c n' c' rows rows' x.w (hIX x).1.2 (hsz x).1 (hJX x).1.2 (hsz x).2; rwa [he1] at this))
  have HC2 := hid (fun x : Later W.heap.size W => later_gives x (Nat.le_refl _) (by have := implSameInts la la' ln lc ln' lc' lw lw' x.w (hIX x).2.1 (hJX x).2.1; rwa [he2] at this))
  have HC3 := hid (fun x : Later W.heap.size W => later_gives x (Nat.le_refl _) (by have := implSameInts ga ga' gn gc gn' gc' gh gh' x.w (hIX x).2.2.1 (hJX x).2.2.1; rwa [he3] at this))
  have HC4 := hid (fun x : Later W.heap.size W => later_gives x (Nat.le_refl _) (by have := implSameInts pa pa' pn pc pn' pc' ps ps' x.w (hIX x).2.2.2 (hJX x).2.2.2; rwa [he4] at this))
  have HF : Hid (eqIt ar ar' rows rows' lw lw' gh gh' ps ps' = (e1 && e2 && e3 && e4)) := hid (by unfold eqIt; rw [he1, he2, he3, he4])
  have HW := hid (And.intro hW (And.intro hBW (And.intro he1 (And.intro he2 (And.intro he3 he4))))); clear hW hBW he1 he2 he3 he4 hIW hJW hIX hJX hsz hI hJ
  cases e1 with
  | false =>
    go_enter Try.func11, Try.ntmps11
    go_upto_region 1 with fail
    rw [← HW.out.1]
    refine wp_region_later (B := W.heap.size) (w0 := W) (by kernel_rfl) (by kernel_rfl) (Below.refl _ _) ?_
    repeat (any_goals (first | go_big_quiet_step ((first | (go_at_call 33; exact HR.out _ _ _ _ _) | (go_at_call 32; exact HC1.out _) | (go_at_call 34; with_reducible first | exact HC2.out _ | exact HC3.out _ | exact HC4.out _))) | quiet_step ((first | (go_at_call 33; exact HR.out _ _ _ _ _) | (go_at_call 32; exact HC1.out _) | (go_at_call 34; with_reducible first | exact HC2.out _ | exact HC3.out _ | exact HC4.out _)))))
    refine wpQuiet_nil ?_
    intro _ hw'
    obtain ⟨nq, hw''⟩ := hw'
    subst hw''
    have HQ := hid nq.be
    generalize nq.w = wq at *
    go_wp2_with fail
    go_ret
    exact ⟨by rw [HF.out]; rfl, HW.out.2.1.trans (HQ.out.mono (by omega))⟩
  | true =>
    cases e2 with
    | false =>
      go_enter Try.func11, Try.ntmps11
      go_upto_region 1 with fail
      rw [← HW.out.1]
      refine wp_region_later (B := W.heap.size) (w0 := W) (by kernel_rfl) (by kernel_rfl) (Below.refl _ _) ?_
      repeat (any_goals (first | go_big_quiet_step ((first | (go_at_call 33; exact HR.out _ _ _ _ _) | (go_at_call 32; exact HC1.out _) | (go_at_call 34; with_reducible first | exact HC2.out _ | exact HC3.out _ | exact HC4.out _))) | quiet_step ((first | (go_at_call 33; exact HR.out _ _ _ _ _) | (go_at_call 32; exact HC1.out _) | (go_at_call 34; with_reducible first | exact HC2.out _ | exact HC3.out _ | exact HC4.out _)))))
      refine wpQuiet_nil ?_
      intro _ hw'
      obtain ⟨nq, hw''⟩ := hw'
      subst hw''
      have HQ := hid nq.be
      generalize nq.w = wq at *
      go_wp2_with fail
      go_ret
      exact ⟨by rw [HF.out]; rfl, HW.out.2.1.trans (HQ.out.mono (by omega))⟩
    | true =>
      cases e3 with
      | false =>
        go_enter Try.func11, Try.ntmps11
        go_upto_region 1 with fail
        rw [← HW.out.1]
        refine wp_region_later (B := W.heap.size) (w0 := W) (by kernel_rfl) (by kernel_rfl) (Below.refl _ _) ?_
        repeat (any_goals (first | go_big_quiet_step ((first | (go_at_call 33; exact HR.out _ _ _ _ _) | (go_at_call 32; exact HC1.out _) | (go_at_call 34; with_reducible first | exact HC2.out _ | exact HC3.out _ | exact HC4.out _))) | quiet_step ((first | (go_at_call 33; exact HR.out _ _ _ _ _) | (go_at_call 32; exact HC1.out _) | (go_at_call 34; with_reducible first | exact HC2.out _ | exact HC3.out _ | exact HC4.out _)))))
        refine wpQuiet_nil ?_
        intro _ hw'
        obtain ⟨nq, hw''⟩ := hw'
        subst hw''
        have HQ := hid nq.be
        generalize nq.w = wq at *
        go_wp2_with fail
        go_ret
        exact ⟨by rw [HF.out]; rfl, HW.out.2.1.trans (HQ.out.mono (by omega))⟩
      | true =>
        cases e4 with
        | false =>
          go_enter Try.func11, Try.ntmps11
          go_upto_region 1 with fail
          rw [← HW.out.1]
          refine wp_region_later (B := W.heap.size) (w0 := W) (by kernel_rfl) (by kernel_rfl) (Below.refl _ _) ?_
          repeat (any_goals (first | go_big_quiet_step ((first | (go_at_call 33; exact HR.out _ _ _ _ _) | (go_at_call 32; exact HC1.out _) | (go_at_call 34; with_reducible first | exact HC2.out _ | exact HC3.out _ | exact HC4.out _))) | quiet_step ((first | (go_at_call 33; exact HR.out _ _ _ _ _) | (go_at_call 32; exact HC1.out _) | (go_at_call 34; with_reducible first | exact HC2.out _ | exact HC3.out _ | exact HC4.out _)))))
          refine wpQuiet_nil ?_
          intro _ hw'
          obtain ⟨nq, hw''⟩ := hw'
          subst hw''
          have HQ := hid nq.be
          generalize nq.w = wq at *
          go_wp2_with fail
          go_ret
          exact ⟨by rw [HF.out]; rfl, HW.out.2.1.trans (HQ.out.mono (by omega))⟩
        | true =>
          go_enter Try.func11, Try.ntmps11
          go_upto_region 1 with fail
          rw [← HW.out.1]
          refine wp_region_later (B := W.heap.size) (w0 := W) (by kernel_rfl) (by kernel_rfl) (Below.refl _ _) ?_
          repeat (any_goals (first | go_big_quiet_step ((first | (go_at_call 33; exact HR.out _ _ _ _ _) | (go_at_call 32; exact HC1.out _) | (go_at_call 34; with_reducible first | exact HC2.out _ | exact HC3.out _ | exact HC4.out _))) | quiet_step ((first | (go_at_call 33; exact HR.out _ _ _ _ _) | (go_at_call 32; exact HC1.out _) | (go_at_call 34; with_reducible first | exact HC2.out _ | exact HC3.out _ | exact HC4.out _)))))
          refine wpQuiet_nil ?_
          intro _ hw'
          obtain ⟨nq, hw''⟩ := hw'
          subst hw''
          have HQ := hid nq.be
          generalize nq.w = wq at *
          go_wp2_with fail
          go_ret
          exact ⟨by rw [HF.out]; rfl, HW.out.2.1.trans (HQ.out.mono (by omega))⟩
set_option maxRecDepth 100000 in
set_option maxHeartbeats 6400000 in
theorem specEqIt {fz fz' : Bool} {lo hi lo' hi' : Nat} (ar : Int) (a : Option Addr) (n : Nat) (c : Nat) (rows : List (List Int)) (la : Option Addr) (ln : Nat) (lc : Nat) (lw : List Int) (ga : Option Addr) (gn : Nat) (gc : Nat) (gh : List Int) (pa : Option Addr) (pn : Nat) (pc : Nat) (ps : List Int) (ar' : Int) (a' : Option Addr) (n' : Nat) (c' : Nat) (rows' : List (List Int)) (la' : Option Addr) (ln' : Nat) (lc' : Nat) (lw' : List Int) (ga' : Option Addr) (gn' : Nat) (gc' : Nat) (gh' : List Int) (pa' : Option Addr) (pn' : Nat) (pc' : Nat) (ps' : List Int) (w : World)
    (hI : IterA fz lo hi w ar a n c rows la ln lc lw ga gn gc gh pa pn pc ps) (hh : hi ≤ w.heap.size) (hJ : IterA fz' lo' hi' w ar' a' n' c' rows' la' ln' lc' lw' ga' gn' gc' gh' pa' pn' pc' ps') (hh' : hi' ≤ w.heap.size) :
    Calls Try.prog 9 #[iterV ar a n c la ln lc ga gn gc pa pn pc, iterV ar' a' n' c' la' ln' lc' ga' gn' gc' pa' pn' pc'] w (Leaves w (.bool (eqIt ar ar' rows rows' lw lw' gh gh' ps ps'))) := by
  obtain ⟨W, hW⟩ : ∃ W, W = (w.alloc (.cells #[.int .i64 ar, .slice a n c, .slice la ln lc, .slice ga gn gc, .slice pa pn pc] 32)).alloc (.cells #[.int .i64 ar', .slice a' n' c', .slice la' ln' lc', .slice ga' gn' gc', .slice pa' pn' pc'] 32) := ⟨_, rfl⟩
  have hBW : Below w.heap.size w W := by rw [hW]; exact (by repeat (first | assumption | exact Below.refl _ _ | refine below_drewN ?_ _ | refine Below.al ?_ (by first | exact Nat.le_refl _ | omega | (simp; done) | (simp; omega)) _ | refine Below.setCell ?_ (by first | exact Nat.le_refl _ | omega | (simp; done) | (simp; omega)) _))
  have hz : w.heap.size + 1 < W.heap.size := by rw [hW]; simp
  have c0 : ∀ x : Later W.heap.size W, x.w.cell? ⟨w.heap.size, 0, none⟩ = some (.int .i64 ar) := fun x => x.cell (by rw [hW]; first | (go_simp; done) | (simp [World.cell?]; done)) (by omega)
  have c1 : ∀ x : Later W.heap.size W, x.w.cell? ⟨w.heap.size, 1, none⟩ = some (.slice a n c) := fun x => x.cell (by rw [hW]; first | (go_simp; done) | (simp [World.cell?]; done)) (by omega)
  have c2 : ∀ x : Later W.heap.size W, x.w.cell? ⟨w.heap.size, 2, none⟩ = some (.slice la ln lc) := fun x => x.cell (by rw [hW]; first | (go_simp; done) | (simp [World.cell?]; done)) (by omega)
  have c3 : ∀ x : Later W.heap.size W, x.w.cell? ⟨w.heap.size, 3, none⟩ = some (.slice ga gn gc) := fun x => x.cell (by rw [hW]; first | (go_simp; done) | (simp [World.cell?]; done)) (by omega)
  have c4 : ∀ x : Later W.heap.size W, x.w.cell? ⟨w.heap.size, 4, none⟩ = some (.slice pa pn pc) := fun x => x.cell (by rw [hW]; first | (go_simp; done) | (simp [World.cell?]; done)) (by omega)
  have d0 : ∀ x : Later W.heap.size W, x.w.cell? ⟨w.heap.size + 1, 0, none⟩ = some (.int .i64 ar') := fun x => x.cell (by rw [hW]; first | (go_simp; done) | (simp [World.cell?]; done)) (by omega)
  have d1 : ∀ x : Later W.heap.size W, x.w.cell? ⟨w.heap.size + 1, 1, none⟩ = some (.slice a' n' c') := fun x => x.cell (by rw [hW]; first | (go_simp; done) | (simp [World.cell?]; done)) (by omega)
  have d2 : ∀ x : Later W.heap.size W, x.w.cell? ⟨w.heap.size + 1, 2, none⟩ = some (.slice la' ln' lc') := fun x => x.cell (by rw [hW]; first | (go_simp; done) | (simp [World.cell?]; done)) (by omega)
  have d3 : ∀ x : Later W.heap.size W, x.w.cell? ⟨w.heap.size + 1, 3, none⟩ = some (.slice ga' gn' gc') := fun x => x.cell (by rw [hW]; first | (go_simp; done) | (simp [World.cell?]; done)) (by omega)
  have d4 : ∀ x : Later W.heap.size W, x.w.cell? ⟨w.heap.size + 1, 4, none⟩ = some (.slice pa' pn' pc') := fun x => x.cell (by rw [hW]; first | (go_simp; done) | (simp [World.cell?]; done)) (by omega)
  have hIW := beIter hI hBW hh
  have hJW := beIter hJ hBW hh'
  have hsz : ∀ x : Later W.heap.size W, hi ≤ x.w.heap.size ∧ hi' ≤ x.w.heap.size := fun x => by have := x.size; omega
  have hIX := fun x : Later W.heap.size W => beIter hIW x.be (by omega)
  have hJX := fun x : Later W.heap.size W => beIter hJW x.be (by omega)
  obtain ⟨e1, he1⟩ : ∃ e, eqT ar ar' rows rows' = e := ⟨_, rfl⟩
  obtain ⟨e2, he2⟩ : ∃ e, eqL lw lw' = e := ⟨_, rfl⟩
  obtain ⟨e3, he3⟩ : ∃ e, eqL gh gh' = e := ⟨_, rfl⟩
  obtain ⟨e4, he4⟩ : ∃ e, eqL ps ps' = e := ⟨_, rfl⟩
  have HR := hid (fun (x : Later W.heap.size W) (r : Int) (p : Option Addr) (q s : Nat) => later_of x (Nat.le_refl _) (specAsRel r p q s x.w))
  have HC1 := hid (fun x : Later W.heap.size W => later_of x (Nat.le_refl _) (by have := specEqRel ar ar' a a' n c n' c' rows rows' x.w (hIX x).1.2 (hsz x).1 (hJX x).1.2 (hsz x).2; rwa [he1] at this))
  obtain ⟨d2, hd2⟩ : ∃ d, cmpR lw lw' = d := ⟨_, rfl⟩
  have hdb2 : (d2 == 0) = e2 := by rw [← hd2, cmpR_eqL]; exact he2
  have HC2 := hid (fun x : Later W.heap.size W => later_gives x (Nat.le_refl _) (by have := specCmpR la la' ln lc ln' lc' lw lw' x.w (hIX x).2.1 (hJX x).2.1; rwa [hd2] at this))
  obtain ⟨d3, hd3⟩ : ∃ d, cmpR gh gh' = d := ⟨_, rfl⟩
  have hdb3 : (d3 == 0) = e3 := by rw [← hd3, cmpR_eqL]; exact he3
  have HC3 := hid (fun x : Later W.heap.size W => later_gives x (Nat.le_refl _) (by have := specCmpR ga ga' gn gc gn' gc' gh gh' x.w (hIX x).2.2.1 (hJX x).2.2.1; rwa [hd3] at this))
  obtain ⟨d4, hd4⟩ : ∃ d, cmpR ps ps' = d := ⟨_, rfl⟩
  have hdb4 : (d4 == 0) = e4 := by rw [← hd4, cmpR_eqL]; exact he4
  have HC4 := hid (fun x : Later W.heap.size W => later_gives x (Nat.le_refl _) (by have := specCmpR pa pa' pn pc pn' pc' ps ps' x.w (hIX x).2.2.2 (hJX x).2.2.2; rwa [hd4] at this))
  have HF : Hid (eqIt ar ar' rows rows' lw lw' gh gh' ps ps' = (e1 && e2 && e3 && e4)) := hid (by unfold eqIt; rw [he1, he2, he3, he4])
  have HDD := hid (And.intro hd2 (And.intro hd3 hd4)); clear hd2 hd3 hd4
  have HW := hid (And.intro hW (And.intro hBW (And.intro he1 (And.intro he2 (And.intro he3 he4))))); clear hW hBW he1 he2 he3 he4 hIW hJW hIX hJX hsz hI hJ
  cases e1 with
  | false =>
    go_enter Try.func9, Try.ntmps9
    go_upto_region 1 with fail
    rw [← HW.out.1]
    refine wp_region_later (B := W.heap.size) (w0 := W) (by kernel_rfl) (by kernel_rfl) (Below.refl _ _) ?_
    repeat (any_goals (first | go_big_quiet_step ((first | (go_at_call 29; exact HR.out _ _ _ _ _) | (go_at_call 28; exact HC1.out _) | (go_at_call 30; with_reducible first | exact HC2.out _ | exact HC3.out _ | exact HC4.out _))) | quiet_step ((first | (go_at_call 29; exact HR.out _ _ _ _ _) | (go_at_call 28; exact HC1.out _) | (go_at_call 30; with_reducible first | exact HC2.out _ | exact HC3.out _ | exact HC4.out _)))))
    refine wpQuiet_nil ?_
    intro _ hw'
    obtain ⟨nq, hw''⟩ := hw'
    subst hw''
    have HQ := hid nq.be
    generalize nq.w = wq at *
    go_wp2_with fail
    go_ret
    exact ⟨by rw [HF.out]; rfl, HW.out.2.1.trans (HQ.out.mono (by omega))⟩
  | true =>
    cases e2 with
    | false =>
      go_enter Try.func9, Try.ntmps9
      go_upto_region 1 with fail
      rw [← HW.out.1]
      refine wp_region_later (B := W.heap.size) (w0 := W) (by kernel_rfl) (by kernel_rfl) (Below.refl _ _) ?_
      repeat (any_goals (first | go_big_quiet_step ((first | (go_at_call 29; exact HR.out _ _ _ _ _) | (go_at_call 28; exact HC1.out _) | (go_at_call 30; with_reducible first | exact HC2.out _ | exact HC3.out _ | exact HC4.out _))) | quiet_step ((first | (go_at_call 29; exact HR.out _ _ _ _ _) | (go_at_call 28; exact HC1.out _) | (go_at_call 30; with_reducible first | exact HC2.out _ | exact HC3.out _ | exact HC4.out _)))))
      refine wpQuiet_nil ?_
      intro _ hw'
      obtain ⟨nq, hw''⟩ := hw'
      subst hw''
      have HQ := hid nq.be
      generalize nq.w = wq at *
      go_wp2_with fail
      go_ret
      exact ⟨by rw [HF.out]; rfl, HW.out.2.1.trans (HQ.out.mono (by omega))⟩
    | true =>
      cases e3 with
      | false =>
        go_enter Try.func9, Try.ntmps9
        go_upto_region 1 with fail
        rw [← HW.out.1]
        refine wp_region_later (B := W.heap.size) (w0 := W) (by kernel_rfl) (by kernel_rfl) (Below.refl _ _) ?_
        repeat (any_goals (first | go_big_quiet_step ((first | (go_at_call 29; exact HR.out _ _ _ _ _) | (go_at_call 28; exact HC1.out _) | (go_at_call 30; with_reducible first | exact HC2.out _ | exact HC3.out _ | exact HC4.out _))) | quiet_step ((first | (go_at_call 29; exact HR.out _ _ _ _ _) | (go_at_call 28; exact HC1.out _) | (go_at_call 30; with_reducible first | exact HC2.out _ | exact HC3.out _ | exact HC4.out _)))))
        refine wpQuiet_nil ?_
        intro _ hw'
        obtain ⟨nq, hw''⟩ := hw'
        subst hw''
        have HQ := hid nq.be
        generalize nq.w = wq at *
        go_wp2_with fail
        go_ret
        exact ⟨by rw [HF.out]; rfl, HW.out.2.1.trans (HQ.out.mono (by omega))⟩
      | true =>
        cases e4 with
        | false =>
          go_enter Try.func9, Try.ntmps9
          go_upto_region 1 with fail
          rw [← HW.out.1]
          refine wp_region_later (B := W.heap.size) (w0 := W) (by kernel_rfl) (by kernel_rfl) (Below.refl _ _) ?_
          repeat (any_goals (first | go_big_quiet_step ((first | (go_at_call 29; exact HR.out _ _ _ _ _) | (go_at_call 28; exact HC1.out _) | (go_at_call 30; with_reducible first | exact HC2.out _ | exact HC3.out _ | exact HC4.out _))) | quiet_step ((first | (go_at_call 29; exact HR.out _ _ _ _ _) | (go_at_call 28; exact HC1.out _) | (go_at_call 30; with_reducible first | exact HC2.out _ | exact HC3.out _ | exact HC4.out _)))))
          refine wpQuiet_nil ?_
          intro _ hw'
          obtain ⟨nq, hw''⟩ := hw'
          subst hw''
          have HQ := hid nq.be
          generalize nq.w = wq at *
          go_wp2_with fail
          go_ret
          exact ⟨by rw [HF.out]; rfl, HW.out.2.1.trans (HQ.out.mono (by omega))⟩
        | true =>
          go_enter Try.func9, Try.ntmps9
          go_upto_region 1 with fail
          rw [← HW.out.1]
          refine wp_region_later (B := W.heap.size) (w0 := W) (by kernel_rfl) (by kernel_rfl) (Below.refl _ _) ?_
          repeat (any_goals (first | go_big_quiet_step ((first | (go_at_call 29; exact HR.out _ _ _ _ _) | (go_at_call 28; exact HC1.out _) | (go_at_call 30; with_reducible first | exact HC2.out _ | exact HC3.out _ | exact HC4.out _))) | quiet_step ((first | (go_at_call 29; exact HR.out _ _ _ _ _) | (go_at_call 28; exact HC1.out _) | (go_at_call 30; with_reducible first | exact HC2.out _ | exact HC3.out _ | exact HC4.out _)))))
          refine wpQuiet_nil ?_
          intro _ hw'
          obtain ⟨nq, hw''⟩ := hw'
          subst hw''
          have HQ := hid nq.be
          generalize nq.w = wq at *
          go_wp2_with fail
          go_ret
          exact ⟨by rw [HF.out]; rfl, HW.out.2.1.trans (HQ.out.mono (by omega))⟩
theorem eqIt_refl (ar : Int) (rows : List (List Int)) (lw gh ps : List Int) : eqIt ar ar rows rows lw lw gh gh ps ps = true := by simp [eqIt, eqT, eqL]
end Go.Proofs.Ytbgbohapbdiopaa
