/- Walks: whether an iterator is at its end. -/
import Derived.Test.YthochdlbmaiclaaI4
import Derived.Test.YthochdlbmaiclaaLater
namespace Go.Proofs.Ythochdlbmaiclaa
set_option linter.unusedSimpArgs false
set_option linter.unusedVariables false
open Go.RowKit
theorem atEnd_no {ar : Int} {rows : List (List Int)} {low high pos : List Int} (h : validIt ar rows low high pos = false) : atEndF ar rows low high pos = false := by simp [atEndF, h]
theorem atEnd_nil {ar : Int} {rows : List (List Int)} {low high pos : List Int} (h : pos.length = 0) : atEndF ar rows low high pos = false := by simp [atEndF, h]
theorem atEnd_yes {ar : Int} {rows : List (List Int)} {low high pos : List Int} (h : validIt ar rows low high pos = true) (h0 : 0 < pos.length) : atEndF ar rows low high pos = decide (ix pos (pos.length - 1) = ix high (pos.length - 1)) := by
  simp [atEndF, h, h0]
set_option maxRecDepth 100000 in
set_option maxHeartbeats 6400000 in
theorem implAtEnd {fz : Bool} {lo hi : Nat} (ar : Int) (a : Option Addr) (n c : Nat) (rows : List (List Int)) (la : Option Addr) (ln lc : Nat) (lw : List Int) (ga : Option Addr) (gn gc : Nat) (gh : List Int) (pa : Option Addr) (pn pc : Nat) (ps : List Int) (w : World)
    (hI : IterA fz lo hi w ar a n c rows la ln lc lw ga gn gc gh pa pn pc ps) (hh : hi ≤ w.heap.size) :
    Calls Try.prog 47 #[iterV ar a n c la ln lc ga gn gc pa pn pc] w (Leaves w (.bool (atEndF ar rows lw gh ps))) := by
  have hl3 := hI.2.2.1.len
  have hl4 := hI.2.2.2.len
  have hs4 := hI.2.2.2.small
  have HL := hid (And.intro hl3 hl4); clear hl3 hl4
  have HI := hid hI; clear hI
  obtain ⟨W, hW⟩ : ∃ W, W = w.alloc (.cells #[.int .i64 ar, .slice a n c, .slice la ln lc, .slice ga gn gc, .slice pa pn pc] 29) := ⟨_, rfl⟩
  have hBW : Below w.heap.size w W := by rw [hW]; exact (by repeat (first | with_reducible assumption | with_reducible exact Below.refl _ _ | with_reducible refine below_drewN ?_ _ | with_reducible refine Below.al ?_ (by first | with_reducible exact Nat.le_refl _ | omega | (simp; done) | (simp; omega) | exact Nat.le_refl _) _ | with_reducible refine Below.setCell ?_ (by first | with_reducible exact Nat.le_refl _ | omega | (simp; done) | (simp; omega) | exact Nat.le_refl _) _ | assumption | exact Below.refl _ _ | refine below_drewN ?_ _ | refine Below.al ?_ (by first | with_reducible exact Nat.le_refl _ | omega | (simp; done) | (simp; omega) | exact Nat.le_refl _) _ | refine Below.setCell ?_ (by first | with_reducible exact Nat.le_refl _ | omega | (simp; done) | (simp; omega) | exact Nat.le_refl _) _))
  have hz : w.heap.size < W.heap.size := by rw [hW]; simp
  have c0 : ∀ x : Later W.heap.size W, x.w.cell? ⟨w.heap.size, 0, none⟩ = some (.int .i64 ar) := fun x => x.cell (by rw [hW]; simp) hz
  have c1 : ∀ x : Later W.heap.size W, x.w.cell? ⟨w.heap.size, 1, none⟩ = some (.slice a n c) := fun x => x.cell (by rw [hW]; simp) hz
  have c2 : ∀ x : Later W.heap.size W, x.w.cell? ⟨w.heap.size, 2, none⟩ = some (.slice la ln lc) := fun x => x.cell (by rw [hW]; simp) hz
  have c3 : ∀ x : Later W.heap.size W, x.w.cell? ⟨w.heap.size, 3, none⟩ = some (.slice ga gn gc) := fun x => x.cell (by rw [hW]; simp) hz
  have c4 : ∀ x : Later W.heap.size W, x.w.cell? ⟨w.heap.size, 4, none⟩ = some (.slice pa pn pc) := fun x => x.cell (by rw [hW]; simp) hz
  have hIW := beIter HI.out hBW hh
  obtain ⟨vb, hvb⟩ : ∃ vb, validIt ar rows lw gh ps = vb := ⟨_, rfl⟩
  have HVB := hid hvb; clear hvb
  have HC := hid (fun x : Later W.heap.size W => later_of x (Nat.le_refl _) (by have := implValidIt ar a n c rows la ln lc lw ga gn gc gh pa pn pc ps x.w (beIter hIW x.be (by omega)) (by have := x.size; omega); rwa [HVB.out] at this))
  have HW := hid (And.intro hW (And.intro hBW hIW)); clear hW hBW hIW
  cases vb with
  | false =>
    have HF := hid (atEnd_no HVB.out)
    go_enter Try.func47, Try.ntmps47
    go_upto_region 2 with fail
    rw [← HW.out.1]
    refine wp_region_later (B := W.heap.size) (w0 := W) (by kernel_rfl) (by kernel_rfl) (Below.refl _ _) ?_
    repeat (any_goals (first | go_big_quiet_step (((go_at_call 42; exact HC.out _))) | quiet_step (((go_at_call 42; exact HC.out _)))))
    refine wpQuiet_nil ?_
    intro _ hw'
    obtain ⟨nq, hw''⟩ := hw'
    subst hw''
    have HQ := hid nq.be
    generalize nq.w = wq at *
    go_wp2_with fail
    go_ret
    exact ⟨by rw [HF.out]; rfl, HW.out.2.1.trans (HQ.out.mono (by omega))⟩
  | true =>
    by_cases hp : pn = 0
    · have HF := hid (atEnd_nil (ar := ar) (rows := rows) (low := lw) (high := gh) (pos := ps) (by rw [HL.out.2]; exact hp))
      subst hp
      go_enter Try.func47, Try.ntmps47
      go_upto_region 2 with fail
      rw [← HW.out.1]
      refine wp_region_later (B := W.heap.size) (w0 := W) (by kernel_rfl) (by kernel_rfl) (Below.refl _ _) ?_
      repeat (any_goals (first | go_big_quiet_step (((go_at_call 42; exact HC.out _))) | quiet_step (((go_at_call 42; exact HC.out _)))))
      refine wpQuiet_nil ?_
      intro _ hw'
      obtain ⟨nq, hw''⟩ := hw'
      subst hw''
      have HQ := hid nq.be
      generalize nq.w = wq at *
      go_wp2_with fail
      go_ret
      exact ⟨by rw [HF.out]; rfl, HW.out.2.1.trans (HQ.out.mono (by omega))⟩
    · have hv := validIt_out HVB.out
      have hg : gn = pn := by have h1 := hv.2.2.1; rw [HL.out.1, HL.out.2] at h1; exact h1
      obtain ⟨l, rfl⟩ : ∃ l, pn = l + 1 := ⟨pn - 1, by omega⟩
      have HF := hid (atEnd_yes HVB.out (by rw [HL.out.2]; omega))
      obtain ⟨gb, go', rfl, d2, _⟩ := intsAt HW.out.2.2.2.2.1 (show l < gn by omega)
      obtain ⟨pb, po', rfl, d3, _⟩ := intsAt HW.out.2.2.2.2.2 (show l < l + 1 by omega)
      have hgb := World.block_lt_of_cell? _ _ d2
      have hpb := World.block_lt_of_cell? _ _ d3
      have d2' : ∀ x : Later W.heap.size W, x.w.cell? ⟨gb, go' + l, none⟩ = some (.int .i64 (ix gh l)) := fun x => x.cell d2 hgb
      have d3' : ∀ x : Later W.heap.size W, x.w.cell? ⟨pb, po' + l, none⟩ = some (.int .i64 (ix ps l)) := fun x => x.cell d3 hpb
      have hw1 : IntKind.i64.wrap ((l : Int) + 1 - 1) = l := by rw [show (l : Int) + 1 - 1 = l by omega]; exact IntWalk.i64_in _ (by omega)
      have hlg : (l : Int) < (gn : Int) := by omega
      have hll : (l : Int) < (l : Int) + 1 := by omega
      clear d2 d3
      generalize hx : ix ps l = x at *
      generalize hy : ix gh l = y at *
      have HX := hid (And.intro hx hy); clear hx hy
      have HV := hid (And.intro hv hg); clear hv hg
      by_cases he : x = y
      · have hb : (x == y) = true := by simp [he]
        have HE := hid he; clear he
        go_enter Try.func47, Try.ntmps47
        go_upto_region 2 with fail
        rw [← HW.out.1]
        refine wp_region_later (B := W.heap.size) (w0 := W) (by kernel_rfl) (by kernel_rfl) (Below.refl _ _) ?_
        repeat (any_goals (first | go_big_quiet_step (((go_at_call 42; exact HC.out _))) | quiet_step (((go_at_call 42; exact HC.out _)))))
        refine wpQuiet_nil ?_
        intro _ hw'
        obtain ⟨nq, hw''⟩ := hw'
        subst hw''
        have HQ := hid nq.be
        generalize nq.w = wq at *
        go_wp2_with fail
        go_ret
        exact ⟨by rw [HF.out, HL.out.2]; simp only [Nat.add_sub_cancel]; rw [HX.out.1, HX.out.2, HE.out]; simp, HW.out.2.1.trans (HQ.out.mono (by omega))⟩
      · have hb : (x == y) = false := by simp [he]
        have HE := hid he; clear he
        go_enter Try.func47, Try.ntmps47
        go_upto_region 2 with fail
        rw [← HW.out.1]
        refine wp_region_later (B := W.heap.size) (w0 := W) (by kernel_rfl) (by kernel_rfl) (Below.refl _ _) ?_
        repeat (any_goals (first | go_big_quiet_step (((go_at_call 42; exact HC.out _))) | quiet_step (((go_at_call 42; exact HC.out _)))))
        refine wpQuiet_nil ?_
        intro _ hw'
        obtain ⟨nq, hw''⟩ := hw'
        subst hw''
        have HQ := hid nq.be
        generalize nq.w = wq at *
        go_wp2_with fail
        go_ret
        exact ⟨by rw [HF.out, HL.out.2]; simp only [Nat.add_sub_cancel]; rw [HX.out.1, HX.out.2]; simp [HE.out], HW.out.2.1.trans (HQ.out.mono (by omega))⟩
set_option maxRecDepth 100000 in
set_option maxHeartbeats 6400000 in
theorem specAtEnd {fz : Bool} {lo hi : Nat} (ar : Int) (a : Option Addr) (n c : Nat) (rows : List (List Int)) (la : Option Addr) (ln lc : Nat) (lw : List Int) (ga : Option Addr) (gn gc : Nat) (gh : List Int) (pa : Option Addr) (pn pc : Nat) (ps : List Int) (w : World)
    (hI : IterA fz lo hi w ar a n c rows la ln lc lw ga gn gc gh pa pn pc ps) (hh : hi ≤ w.heap.size) :
    Calls Try.prog 43 #[iterV ar a n c la ln lc ga gn gc pa pn pc] w (Leaves w (.bool (atEndF ar rows lw gh ps))) := by
  have hl3 := hI.2.2.1.len
  have hl4 := hI.2.2.2.len
  have hs4 := hI.2.2.2.small
  have HL := hid (And.intro hl3 hl4); clear hl3 hl4
  have HI := hid hI; clear hI
  obtain ⟨W, hW⟩ : ∃ W, W = w.alloc (.cells #[.int .i64 ar, .slice a n c, .slice la ln lc, .slice ga gn gc, .slice pa pn pc] 29) := ⟨_, rfl⟩
  have hBW : Below w.heap.size w W := by rw [hW]; exact (by repeat (first | with_reducible assumption | with_reducible exact Below.refl _ _ | with_reducible refine below_drewN ?_ _ | with_reducible refine Below.al ?_ (by first | with_reducible exact Nat.le_refl _ | omega | (simp; done) | (simp; omega) | exact Nat.le_refl _) _ | with_reducible refine Below.setCell ?_ (by first | with_reducible exact Nat.le_refl _ | omega | (simp; done) | (simp; omega) | exact Nat.le_refl _) _ | assumption | exact Below.refl _ _ | refine below_drewN ?_ _ | refine Below.al ?_ (by first | with_reducible exact Nat.le_refl _ | omega | (simp; done) | (simp; omega) | exact Nat.le_refl _) _ | refine Below.setCell ?_ (by first | with_reducible exact Nat.le_refl _ | omega | (simp; done) | (simp; omega) | exact Nat.le_refl _) _))
  have hz : w.heap.size < W.heap.size := by rw [hW]; simp
  have c0 : ∀ x : Later W.heap.size W, x.w.cell? ⟨w.heap.size, 0, none⟩ = some (.int .i64 ar) := fun x => x.cell (by rw [hW]; simp) hz
  have c1 : ∀ x : Later W.heap.size W, x.w.cell? ⟨w.heap.size, 1, none⟩ = some (.slice a n c) := fun x => x.cell (by rw [hW]; simp) hz
  have c2 : ∀ x : Later W.heap.size W, x.w.cell? ⟨w.heap.size, 2, none⟩ = some (.slice la ln lc) := fun x => x.cell (by rw [hW]; simp) hz
  have c3 : ∀ x : Later W.heap.size W, x.w.cell? ⟨w.heap.size, 3, none⟩ = some (.slice ga gn gc) := fun x => x.cell (by rw [hW]; simp) hz
  have c4 : ∀ x : Later W.heap.size W, x.w.cell? ⟨w.heap.size, 4, none⟩ = some (.slice pa pn pc) := fun x => x.cell (by rw [hW]; simp) hz
  have hIW := beIter HI.out hBW hh
  obtain ⟨vb, hvb⟩ : ∃ vb, validIt ar rows lw gh ps = vb := ⟨_, rfl⟩
  have HVB := hid hvb; clear hvb
  have HC := hid (fun x : Later W.heap.size W => later_of x (Nat.le_refl _) (by have := specValidIt ar a n c rows la ln lc lw ga gn gc gh pa pn pc ps x.w (beIter hIW x.be (by omega)) (by have := x.size; omega); rwa [HVB.out] at this))
  have HW := hid (And.intro hW (And.intro hBW hIW)); clear hW hBW hIW
  cases vb with
  | false =>
    have HF := hid (atEnd_no HVB.out)
    go_enter Try.func43, Try.ntmps43
    go_upto_region 2 with fail
    rw [← HW.out.1]
    refine wp_region_later (B := W.heap.size) (w0 := W) (by kernel_rfl) (by kernel_rfl) (Below.refl _ _) ?_
    repeat (any_goals (first | go_big_quiet_step (((go_at_call 40; exact HC.out _))) | quiet_step (((go_at_call 40; exact HC.out _)))))
    refine wpQuiet_nil ?_
    intro _ hw'
    obtain ⟨nq, hw''⟩ := hw'
    subst hw''
    have HQ := hid nq.be
    generalize nq.w = wq at *
    go_wp2_with fail
    go_ret
    exact ⟨by rw [HF.out]; rfl, HW.out.2.1.trans (HQ.out.mono (by omega))⟩
  | true =>
    by_cases hp : pn = 0
    · have HF := hid (atEnd_nil (ar := ar) (rows := rows) (low := lw) (high := gh) (pos := ps) (by rw [HL.out.2]; exact hp))
      subst hp
      go_enter Try.func43, Try.ntmps43
      go_upto_region 2 with fail
      rw [← HW.out.1]
      refine wp_region_later (B := W.heap.size) (w0 := W) (by kernel_rfl) (by kernel_rfl) (Below.refl _ _) ?_
      repeat (any_goals (first | go_big_quiet_step (((go_at_call 40; exact HC.out _))) | quiet_step (((go_at_call 40; exact HC.out _)))))
      refine wpQuiet_nil ?_
      intro _ hw'
      obtain ⟨nq, hw''⟩ := hw'
      subst hw''
      have HQ := hid nq.be
      generalize nq.w = wq at *
      go_wp2_with fail
      go_ret
      exact ⟨by rw [HF.out]; rfl, HW.out.2.1.trans (HQ.out.mono (by omega))⟩
    · have hv := validIt_out HVB.out
      have hg : gn = pn := by have h1 := hv.2.2.1; rw [HL.out.1, HL.out.2] at h1; exact h1
      obtain ⟨l, rfl⟩ : ∃ l, pn = l + 1 := ⟨pn - 1, by omega⟩
      have HF := hid (atEnd_yes HVB.out (by rw [HL.out.2]; omega))
      obtain ⟨gb, go', rfl, d2, _⟩ := intsAt HW.out.2.2.2.2.1 (show l < gn by omega)
      obtain ⟨pb, po', rfl, d3, _⟩ := intsAt HW.out.2.2.2.2.2 (show l < l + 1 by omega)
      have hgb := World.block_lt_of_cell? _ _ d2
      have hpb := World.block_lt_of_cell? _ _ d3
      have d2' : ∀ x : Later W.heap.size W, x.w.cell? ⟨gb, go' + l, none⟩ = some (.int .i64 (ix gh l)) := fun x => x.cell d2 hgb
      have d3' : ∀ x : Later W.heap.size W, x.w.cell? ⟨pb, po' + l, none⟩ = some (.int .i64 (ix ps l)) := fun x => x.cell d3 hpb
      have hw1 : IntKind.i64.wrap ((l : Int) + 1 - 1) = l := by rw [show (l : Int) + 1 - 1 = l by omega]; exact IntWalk.i64_in _ (by omega)
      have hlg : (l : Int) < (gn : Int) := by omega
      have hll : (l : Int) < (l : Int) + 1 := by omega
      clear d2 d3
      generalize hx : ix ps l = x at *
      generalize hy : ix gh l = y at *
      have HX := hid (And.intro hx hy); clear hx hy
      have HV := hid (And.intro hv hg); clear hv hg
      by_cases he : x = y
      · have hb : (x == y) = true := by simp [he]
        have HE := hid he; clear he
        go_enter Try.func43, Try.ntmps43
        go_upto_region 2 with fail
        rw [← HW.out.1]
        refine wp_region_later (B := W.heap.size) (w0 := W) (by kernel_rfl) (by kernel_rfl) (Below.refl _ _) ?_
        repeat (any_goals (first | go_big_quiet_step (((go_at_call 40; exact HC.out _))) | quiet_step (((go_at_call 40; exact HC.out _)))))
        refine wpQuiet_nil ?_
        intro _ hw'
        obtain ⟨nq, hw''⟩ := hw'
        subst hw''
        have HQ := hid nq.be
        generalize nq.w = wq at *
        go_wp2_with fail
        go_ret
        exact ⟨by rw [HF.out, HL.out.2]; simp only [Nat.add_sub_cancel]; rw [HX.out.1, HX.out.2, HE.out]; simp, HW.out.2.1.trans (HQ.out.mono (by omega))⟩
      · have hb : (x == y) = false := by simp [he]
        have HE := hid he; clear he
        go_enter Try.func43, Try.ntmps43
        go_upto_region 2 with fail
        rw [← HW.out.1]
        refine wp_region_later (B := W.heap.size) (w0 := W) (by kernel_rfl) (by kernel_rfl) (Below.refl _ _) ?_
        repeat (any_goals (first | go_big_quiet_step (((go_at_call 40; exact HC.out _))) | quiet_step (((go_at_call 40; exact HC.out _)))))
        refine wpQuiet_nil ?_
        intro _ hw'
        obtain ⟨nq, hw''⟩ := hw'
        subst hw''
        have HQ := hid nq.be
        generalize nq.w = wq at *
        go_wp2_with fail
        go_ret
        exact ⟨by rw [HF.out, HL.out.2]; simp only [Nat.add_sub_cancel]; rw [HX.out.1, HX.out.2]; simp [HE.out], HW.out.2.1.trans (HQ.out.mono (by omega))⟩
end Go.Proofs.Ythochdlbmaiclaa
