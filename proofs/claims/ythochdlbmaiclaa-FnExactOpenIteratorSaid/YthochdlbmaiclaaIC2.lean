/- Walks: the implementation's copy of an iterator: its parts lie apart. Written by iters2.py. -/
import Derived.Test.YthochdlbmaiclaaItS
import Derived.Test.YthochdlbmaiclaaIC1
namespace Go.Proofs.Ythochdlbmaiclaa
set_option linter.unusedSimpArgs false
set_option linter.unusedVariables false
open Go.RowKit
def GvIterS (w : World) (ar : Int) (rows : List (List Int)) (lw gh ps : List Int) (e : Ending) (w' : World) : Prop :=
  ∃ a n c la ln lc ga gn gc pa pn pc, e = .returned (iterV ar a n c la ln lc ga gn gc pa pn pc) ∧ IterS w.heap.size w'.heap.size w' ar a n c rows la ln lc lw ga gn gc gh pa pn pc ps ∧ Below w.heap.size w w'
/-- an iterator whose parts lie apart and whose lists can be appended to -/
def IterX (lo hi : Nat) (w : World) (ar : Int) (a : Option Addr) (n c : Nat) (rows : List (List Int)) (la : Option Addr) (ln lc : Nat) (lw : List Int) (ga : Option Addr) (gn gc : Nat) (gh : List Int) (pa : Option Addr) (pn pc : Nat) (ps : List Int) : Prop :=
  I64 ar ∧ ∃ s0 t0 s1 t1 s2 t2 s3 t3, RowsS s0 t0 w a n c rows ∧ intsX s1 t1 w la ln lc lw ∧ intsX s2 t2 w ga gn gc gh ∧ intsX s3 t3 w pa pn pc ps ∧ Apart4 lo hi s0 t0 s1 t1 s2 t2 s3 t3
section
variable {lo hi B lo' hi' : Nat} {w w' : World} {ar : Int} {a : Option Addr} {n c : Nat} {rows : List (List Int)} {la : Option Addr} {ln lc : Nat} {lw : List Int} {ga : Option Addr} {gn gc : Nat} {gh : List Int} {pa : Option Addr} {pn pc : Nat} {ps : List Int}
theorem IterX.s (h : IterX lo hi w ar a n c rows la ln lc lw ga gn gc gh pa pn pc ps) : IterS lo hi w ar a n c rows la ln lc lw ga gn gc gh pa pn pc ps := by
  obtain ⟨h64, s0, t0, s1, t1, s2, t2, s3, t3, h0, h1, h2, h3, hA⟩ := h
  exact ⟨h64, s0, t0, s1, t1, s2, t2, s3, t3, h0, h1.1, h2.1, h3.1, hA⟩
theorem kpIterX (h : IterX lo hi w ar a n c rows la ln lc lw ga gn gc gh pa pn pc ps) (hb : Keeps lo hi w w') : IterX lo hi w' ar a n c rows la ln lc lw ga gn gc gh pa pn pc ps := by
  obtain ⟨h64, s0, t0, s1, t1, s2, t2, s3, t3, h0, h1, h2, h3, hA⟩ := h
  have hA' := hA
  unfold Apart4 at hA'
  exact ⟨h64, s0, t0, s1, t1, s2, t2, s3, t3, SepA.keep intsQOK h0 (hb.mono (by omega) (by omega)), intsXOK.keep h1 (hb.mono (by omega) (by omega)), intsXOK.keep h2 (hb.mono (by omega) (by omega)), intsXOK.keep h3 (hb.mono (by omega) (by omega)), hA⟩
theorem wdIterX (h : IterX lo hi w ar a n c rows la ln lc lw ga gn gc gh pa pn pc ps) (hl : lo' ≤ lo) : IterX lo' hi w ar a n c rows la ln lc lw ga gn gc gh pa pn pc ps := by
  obtain ⟨h64, s0, t0, s1, t1, s2, t2, s3, t3, h0, h1, h2, h3, hA⟩ := h
  exact ⟨h64, s0, t0, s1, t1, s2, t2, s3, t3, h0, h1, h2, h3, by unfold Apart4 at *; omega⟩
theorem hgIterX (h : IterX lo hi w ar a n c rows la ln lc lw ga gn gc gh pa pn pc ps) (hl : hi ≤ hi') : IterX lo hi' w ar a n c rows la ln lc lw ga gn gc gh pa pn pc ps := by
  obtain ⟨h64, s0, t0, s1, t1, s2, t2, s3, t3, h0, h1, h2, h3, hA⟩ := h
  exact ⟨h64, s0, t0, s1, t1, s2, t2, s3, t3, h0, h1, h2, h3, by unfold Apart4 at *; omega⟩
end
def GvIterX (w : World) (ar : Int) (rows : List (List Int)) (lw gh ps : List Int) (e : Ending) (w' : World) : Prop :=
  ∃ a n c la ln lc ga gn gc pa pn pc, e = .returned (iterV ar a n c la ln lc ga gn gc pa pn pc) ∧ IterX w.heap.size w'.heap.size w' ar a n c rows la ln lc lw ga gn gc gh pa pn pc ps ∧ Below w.heap.size w w'
theorem GvIterX.s {w : World} {ar : Int} {rows : List (List Int)} {lw gh ps : List Int} {e : Ending} {w' : World} (h : GvIterX w ar rows lw gh ps e w') : GvIterS w ar rows lw gh ps e w' := by
  obtain ⟨a, n, c, la, ln, lc, ga, gn, gc, pa, pn, pc, h1, h2, h3⟩ := h
  exact ⟨a, n, c, la, ln, lc, ga, gn, gc, pa, pn, pc, h1, h2.s, h3⟩
/-- the value is a slice of lists that lie apart in the blocks from s on and below t -/
def pRows (n : Nat) (rows : List (List Int)) : PropV := fun v s t w' => t ≤ w'.heap.size ∧ ∃ a' c', v = .slice a' n c' ∧ RowsS s t w' a' n c' rows
theorem pRows_st (n : Nat) (rows : List (List Int)) : StableP (pRows n rows) := fun _ _ _ _ _ ⟨h0, a', c', h1, h2⟩ hb => ⟨Nat.le_trans h0 hb.size, a', c', h1, SepA.keep intsQOK h2 (Keeps.of_below hb h0)⟩
def pAny : PropV := fun _ _ _ _ => True
theorem pAny_st : StableP pAny := fun _ _ _ _ _ h _ => h
set_option maxRecDepth 100000 in
set_option maxHeartbeats 12800000 in
theorem implCopyItX {fz : Bool} {lo hi : Nat} (ar : Int) (a : Option Addr) (n c : Nat) (rows : List (List Int)) (la : Option Addr) (ln lc : Nat) (lw : List Int) (ga : Option Addr) (gn gc : Nat) (gh : List Int) (pa : Option Addr) (pn pc : Nat) (ps : List Int) (w : World) (hI : IterA fz lo hi w ar a n c rows la ln lc lw ga gn gc gh pa pn pc ps) (hh : hi ≤ w.heap.size) (hs : szIter rows lw gh ps ≤ 1048576) :
    Calls Try.prog 32 #[iterV ar a n c la ln lc ga gn gc pa pn pc] w (GvIterX w ar rows lw gh ps) := by
  have hl1 := hI.2.1.len; have hl2 := hI.2.2.1.len; have hl3 := hI.2.2.2.len
  have hsz : rowsSz rows ≤ 1048576 ∧ ln ≤ 1048576 ∧ gn ≤ 1048576 ∧ pn ≤ 1048576 := by unfold szIter at hs; omega
  clear hl1 hl2 hl3 hs
  obtain ⟨W, hW⟩ : ∃ W, W = (w.alloc (.cells #[.int .i64 ar, .slice a n c, .slice la ln lc, .slice ga gn gc, .slice pa pn pc] 29)).alloc (.cells #[.int .i64 0, .slice none 0 0, .slice none 0 0, .slice none 0 0, .slice none 0 0] 29) := ⟨_, rfl⟩
  have hBW : Below w.heap.size w W := by rw [hW]; exact (by repeat (first | with_reducible assumption | with_reducible exact Below.refl _ _ | with_reducible refine below_drewN ?_ _ | with_reducible refine Below.al ?_ (by first | with_reducible exact Nat.le_refl _ | omega | (simp; done) | (simp; omega) | exact Nat.le_refl _) _ | with_reducible refine Below.setCell ?_ (by first | with_reducible exact Nat.le_refl _ | omega | (simp; done) | (simp; omega) | exact Nat.le_refl _) _ | assumption | exact Below.refl _ _ | refine below_drewN ?_ _ | refine Below.al ?_ (by first | with_reducible exact Nat.le_refl _ | omega | (simp; done) | (simp; omega) | exact Nat.le_refl _) _ | refine Below.setCell ?_ (by first | with_reducible exact Nat.le_refl _ | omega | (simp; done) | (simp; omega) | exact Nat.le_refl _) _))
  have hz : W.heap.size = w.heap.size + 2 := by rw [hW]; simp
  have c0 : W.cell? ⟨w.heap.size, 0, none⟩ = some (.int .i64 ar) := by rw [hW]; first | (go_simp; done) | (simp [World.cell?]; done)
  have c1 : W.cell? ⟨w.heap.size, 1, none⟩ = some (.slice a n c) := by rw [hW]; first | (go_simp; done) | (simp [World.cell?]; done)
  have c2 : W.cell? ⟨w.heap.size, 2, none⟩ = some (.slice la ln lc) := by rw [hW]; first | (go_simp; done) | (simp [World.cell?]; done)
  have c3 : W.cell? ⟨w.heap.size, 3, none⟩ = some (.slice ga gn gc) := by rw [hW]; first | (go_simp; done) | (simp [World.cell?]; done)
  have c4 : W.cell? ⟨w.heap.size, 4, none⟩ = some (.slice pa pn pc) := by rw [hW]; first | (go_simp; done) | (simp [World.cell?]; done)
  have q0 : W.cell? ⟨w.heap.size + 1, 0, none⟩ = some (.int .i64 0) := by rw [hW]; first | (go_simp; done) | (simp [World.cell?]; done)
  have f0 : W.frozen? ⟨w.heap.size + 1, 0, none⟩ = false := by rw [hW]; first | (go_simp; done) | (simp [World.frozen?]; done)
  have q1 : W.cell? ⟨w.heap.size + 1, 1, none⟩ = some (.slice none 0 0) := by rw [hW]; first | (go_simp; done) | (simp [World.cell?]; done)
  have f1 : W.frozen? ⟨w.heap.size + 1, 1, none⟩ = false := by rw [hW]; first | (go_simp; done) | (simp [World.frozen?]; done)
  have q2 : W.cell? ⟨w.heap.size + 1, 2, none⟩ = some (.slice none 0 0) := by rw [hW]; first | (go_simp; done) | (simp [World.cell?]; done)
  have f2 : W.frozen? ⟨w.heap.size + 1, 2, none⟩ = false := by rw [hW]; first | (go_simp; done) | (simp [World.frozen?]; done)
  have q3 : W.cell? ⟨w.heap.size + 1, 3, none⟩ = some (.slice none 0 0) := by rw [hW]; first | (go_simp; done) | (simp [World.cell?]; done)
  have f3 : W.frozen? ⟨w.heap.size + 1, 3, none⟩ = false := by rw [hW]; first | (go_simp; done) | (simp [World.frozen?]; done)
  have q4 : W.cell? ⟨w.heap.size + 1, 4, none⟩ = some (.slice none 0 0) := by rw [hW]; first | (go_simp; done) | (simp [World.cell?]; done)
  have f4 : W.frozen? ⟨w.heap.size + 1, 4, none⟩ = false := by rw [hW]; first | (go_simp; done) | (simp [World.frozen?]; done)
  have HIW := hid (beIter hI hBW hh); have HAR := hid hI.1.1; clear hI
  have hb0 : w.heap.size < W.heap.size := by omega
  have hb1 : w.heap.size + 1 < W.heap.size := by omega
  have hhW : hi ≤ W.heap.size := by omega
  have HBW := hid hBW; have HW := hid hW; have HZ := hid hz; clear hW hBW hz
  go_enter Try.func32, Try.ntmps32
  go_upto_region 1 with fail
  rw [← HW.out]
  refine wp_region_growL (n := 17) (N := 21) (by kernel_rfl) (by kernel_rfl) (by rfl)
    (vp [pEq (.pointer (some ⟨w.heap.size, 0, none⟩)), pEq (.pointer (some ⟨w.heap.size, 0, none⟩)), pEq (.int .i64 ar), pEq (.pointer (some ⟨w.heap.size, 0, none⟩)), pEq (.pointer (some ⟨w.heap.size, 1, none⟩)), pEq (.slice a n c), pRows n rows, pAny, pEq (.pointer (some ⟨w.heap.size, 2, none⟩)), pEq (.slice la ln lc), pDat intsX ln lw, pEq (.pointer (some ⟨w.heap.size, 3, none⟩)), pEq (.slice ga gn gc), pDat intsX gn gh, pEq (.pointer (some ⟨w.heap.size, 4, none⟩)), pEq (.slice pa pn pc), pDat intsX pn ps])
    (fun i f => i = 7 → f 7 = .agg #[.int .i64 ar, f 6]) ?_
    (stab_vp (by
      intro p hp
      simp only [List.mem_cons, List.not_mem_nil, or_false] at hp
      rcases hp with rfl | rfl | rfl | rfl | rfl | rfl | rfl | rfl | rfl | rfl | rfl | rfl | rfl | rfl | rfl | rfl | rfl <;> first | exact pEq_st _ | exact pRows_st _ _ | exact pAny_st | exact pDat_st intsXOK _ _)) ?_ ?_
  · intro i o f f' ho hL hi hd h7
    subst h7
    obtain rfl := Option.some.inj ho
    rw [hi, hd ⟨6, .data⟩ (by simp) (by rfl)]; exact hL rfl
  · intro i o hi ho a' w' hB hF hdeps
    rcases (by omega : i = 0 ∨ i = 1 ∨ i = 2 ∨ i = 3 ∨ i = 4 ∨ i = 5 ∨ i = 6 ∨ i = 7 ∨ i = 8 ∨ i = 9 ∨ i = 10 ∨ i = 11 ∨ i = 12 ∨ i = 13 ∨ i = 14 ∨ i = 15 ∨ i = 16) with rfl | rfl | rfl | rfl | rfl | rfl | rfl | rfl | rfl | rfl | rfl | rfl | rfl | rfl | rfl | rfl | rfl
    · obtain rfl := Option.some.inj ho
      have e1 := evTmp (hF.ev 1 (by kernel_rfl) rfl)
      refine stepGL (v := .pointer (some ⟨w.heap.size, 0, none⟩)) (s := w'.heap.size) (t := w'.heap.size) (w'' := w') ?_ ?_ ?_ ?_ ?_ ?_
      · simp [execOp, e1, go_sem]
      · exact Below.refl _ _
      · exact Nat.le_refl _
      · exact Nat.le_refl _
      · exact rfl
      · exact fun _ _ _ h => absurd h (by decide)
    · obtain rfl := Option.some.inj ho
      obtain ⟨_, _, e'⟩ := hdeps ⟨0, .data⟩ (by simp) (by rfl) _ 3 rfl rfl
      have e := evTmp (show a'.eval (.tmp 3) = .pointer (some ⟨w.heap.size, 0, none⟩) from e')
      refine stepGL (v := .pointer (some ⟨w.heap.size, 0, none⟩)) (s := w'.heap.size) (t := w'.heap.size) (w'' := w') ?_ ?_ ?_ ?_ ?_ ?_
      · simp [execOp, e, go_sem]
      · exact Below.refl _ _
      · exact Nat.le_refl _
      · exact Nat.le_refl _
      · exact rfl
      · exact fun _ _ _ h => absurd h (by decide)
    · obtain rfl := Option.some.inj ho
      obtain ⟨_, _, e'⟩ := hdeps ⟨1, .data⟩ (by simp) (by rfl) _ 4 rfl rfl
      have e := evTmp (show a'.eval (.tmp 4) = .pointer (some ⟨w.heap.size, 0, none⟩) from e')
      have hc : w'.cell? ⟨w.heap.size, 0, none⟩ = some (.int .i64 ar) := by rw [(bcell hB).1 _ _ hb0]; exact c0
      refine stepGL (v := .int .i64 ar) (s := w'.heap.size) (t := w'.heap.size) (w'' := w') ?_ ?_ ?_ ?_ ?_ ?_
      · simp [execOp, e, go_sem, hc]
      · exact Below.refl _ _
      · exact Nat.le_refl _
      · exact Nat.le_refl _
      · exact rfl
      · exact fun _ _ _ h => absurd h (by decide)
    · obtain rfl := Option.some.inj ho
      have e1 := evTmp (hF.ev 1 (by kernel_rfl) rfl)
      refine stepGL (v := .pointer (some ⟨w.heap.size, 0, none⟩)) (s := w'.heap.size) (t := w'.heap.size) (w'' := w') ?_ ?_ ?_ ?_ ?_ ?_
      · simp [execOp, e1, go_sem]
      · exact Below.refl _ _
      · exact Nat.le_refl _
      · exact Nat.le_refl _
      · exact rfl
      · exact fun _ _ _ h => absurd h (by decide)
    · obtain rfl := Option.some.inj ho
      obtain ⟨_, _, e'⟩ := hdeps ⟨3, .data⟩ (by simp) (by rfl) _ 6 rfl rfl
      have e := evTmp (show a'.eval (.tmp 6) = .pointer (some ⟨w.heap.size, 0, none⟩) from e')
      refine stepGL (v := .pointer (some ⟨w.heap.size, 1, none⟩)) (s := w'.heap.size) (t := w'.heap.size) (w'' := w') ?_ ?_ ?_ ?_ ?_ ?_
      · simp [execOp, e, go_sem]
      · exact Below.refl _ _
      · exact Nat.le_refl _
      · exact Nat.le_refl _
      · exact rfl
      · exact fun _ _ _ h => absurd h (by decide)
    · obtain rfl := Option.some.inj ho
      obtain ⟨_, _, e'⟩ := hdeps ⟨4, .data⟩ (by simp) (by rfl) _ 7 rfl rfl
      have e := evTmp (show a'.eval (.tmp 7) = .pointer (some ⟨w.heap.size, 1, none⟩) from e')
      have hc : w'.cell? ⟨w.heap.size, 1, none⟩ = some (.slice a n c) := by rw [(bcell hB).1 _ _ hb0]; exact c1
      refine stepGL (v := .slice a n c) (s := w'.heap.size) (t := w'.heap.size) (w'' := w') ?_ ?_ ?_ ?_ ?_ ?_
      · simp [execOp, e, go_sem, hc]
      · exact Below.refl _ _
      · exact Nat.le_refl _
      · exact Nat.le_refl _
      · exact rfl
      · exact fun _ _ _ h => absurd h (by decide)
    · obtain rfl := Option.some.inj ho
      obtain ⟨_, _, e2⟩ := hdeps ⟨5, .data⟩ (by simp) (by rfl) _ 8 rfl rfl
      have e2' : a'.eval (.tmp 8) = .slice a n c := e2
      refine stepGLC (f := 53) (args := #[.slice a n c]) (by simp [execOp, resolve, evTmp e2', Act.eval, Deferred.ofValue, invoke, go_sem]) ?_
      refine (implCopyRows a n c rows w' (SlA.be intsOK HIW.out.1.2 hB hhW) (by have := hB.size; omega) hsz.1).mono ?_
      rintro e w3 ⟨a1, c1, rfl, k1, hb3⟩
      exact ⟨_, w'.heap.size, w3.heap.size, rfl, hb3, Nat.le_refl _, Nat.le_refl _, ⟨Nat.le_refl _, a1, c1, rfl, k1⟩, fun _ _ _ h => absurd h (by decide)⟩
    · obtain rfl := Option.some.inj ho
      obtain ⟨_, _, e5⟩ := hdeps ⟨2, .data⟩ (by simp) (by rfl) _ 5 rfl rfl
      obtain ⟨_, _, _, a6, c6, e9, _⟩ := hdeps ⟨6, .data⟩ (by simp) (by rfl) _ 9 rfl rfl
      have e5' : a'.eval (.tmp 5) = .int .i64 ar := e5
      have e9' : a'.eval (.tmp 9) = .slice a6 n c6 := e9
      refine stepGL (v := .agg #[.int .i64 ar, .slice a6 n c6]) (s := w'.heap.size) (t := w'.heap.size) (w'' := w') ?_ ?_ ?_ ?_ ?_ ?_
      · simp [execOp, evTmp e5', evTmp e9', Act.eval, go_sem]
      · exact Below.refl _ _
      · exact Nat.le_refl _
      · exact Nat.le_refl _
      · trivial
      · intro f h1 h2 _; rw [h1, h2 ⟨6, .data⟩ (by simp) (by rfl)]; rw [valAt_of (j := 6) (t := 9) rfl rfl, show a'.tmps.getD 9 undef = .slice a6 n c6 from e9]
    · obtain rfl := Option.some.inj ho
      have e1 := evTmp (hF.ev 1 (by kernel_rfl) rfl)
      refine stepGL (v := .pointer (some ⟨w.heap.size, 2, none⟩)) (s := w'.heap.size) (t := w'.heap.size) (w'' := w') ?_ ?_ ?_ ?_ ?_ ?_
      · simp [execOp, e1, go_sem]
      · exact Below.refl _ _
      · exact Nat.le_refl _
      · exact Nat.le_refl _
      · exact rfl
      · exact fun _ _ _ h => absurd h (by decide)
    · obtain rfl := Option.some.inj ho
      obtain ⟨_, _, e'⟩ := hdeps ⟨8, .data⟩ (by simp) (by rfl) _ 11 rfl rfl
      have e := evTmp (show a'.eval (.tmp 11) = .pointer (some ⟨w.heap.size, 2, none⟩) from e')
      have hc : w'.cell? ⟨w.heap.size, 2, none⟩ = some (.slice la ln lc) := by rw [(bcell hB).1 _ _ hb0]; exact c2
      refine stepGL (v := .slice la ln lc) (s := w'.heap.size) (t := w'.heap.size) (w'' := w') ?_ ?_ ?_ ?_ ?_ ?_
      · simp [execOp, e, go_sem, hc]
      · exact Below.refl _ _
      · exact Nat.le_refl _
      · exact Nat.le_refl _
      · exact rfl
      · exact fun _ _ _ h => absurd h (by decide)
    · obtain rfl := Option.some.inj ho
      obtain ⟨_, _, e2⟩ := hdeps ⟨9, .data⟩ (by simp) (by rfl) _ 12 rfl rfl
      have e2' : a'.eval (.tmp 12) = .slice la ln lc := e2
      refine stepGLC (f := 54) (args := #[.slice la ln lc]) (by simp [execOp, resolve, evTmp e2', Act.eval, Deferred.ofValue, invoke, go_sem]) ?_
      refine (implCopyInts la ln lc lw w' (HIW.out.2.1.be hB hhW) (by have := hB.size; omega) hsz.2.1).mono ?_
      rintro e w3 ⟨a1, c1, s, t, rfl, hb3, k1, k2, k3, k4⟩
      exact ⟨_, s, t, rfl, hb3, k1, k2, ⟨k2, k4, a1, c1, rfl, k3⟩, fun _ _ _ h => absurd h (by decide)⟩
    · obtain rfl := Option.some.inj ho
      have e1 := evTmp (hF.ev 1 (by kernel_rfl) rfl)
      refine stepGL (v := .pointer (some ⟨w.heap.size, 3, none⟩)) (s := w'.heap.size) (t := w'.heap.size) (w'' := w') ?_ ?_ ?_ ?_ ?_ ?_
      · simp [execOp, e1, go_sem]
      · exact Below.refl _ _
      · exact Nat.le_refl _
      · exact Nat.le_refl _
      · exact rfl
      · exact fun _ _ _ h => absurd h (by decide)
    · obtain rfl := Option.some.inj ho
      obtain ⟨_, _, e'⟩ := hdeps ⟨11, .data⟩ (by simp) (by rfl) _ 14 rfl rfl
      have e := evTmp (show a'.eval (.tmp 14) = .pointer (some ⟨w.heap.size, 3, none⟩) from e')
      have hc : w'.cell? ⟨w.heap.size, 3, none⟩ = some (.slice ga gn gc) := by rw [(bcell hB).1 _ _ hb0]; exact c3
      refine stepGL (v := .slice ga gn gc) (s := w'.heap.size) (t := w'.heap.size) (w'' := w') ?_ ?_ ?_ ?_ ?_ ?_
      · simp [execOp, e, go_sem, hc]
      · exact Below.refl _ _
      · exact Nat.le_refl _
      · exact Nat.le_refl _
      · exact rfl
      · exact fun _ _ _ h => absurd h (by decide)
    · obtain rfl := Option.some.inj ho
      obtain ⟨_, _, e2⟩ := hdeps ⟨12, .data⟩ (by simp) (by rfl) _ 15 rfl rfl
      have e2' : a'.eval (.tmp 15) = .slice ga gn gc := e2
      refine stepGLC (f := 54) (args := #[.slice ga gn gc]) (by simp [execOp, resolve, evTmp e2', Act.eval, Deferred.ofValue, invoke, go_sem]) ?_
      refine (implCopyInts ga gn gc gh w' (HIW.out.2.2.1.be hB hhW) (by have := hB.size; omega) hsz.2.2.1).mono ?_
      rintro e w3 ⟨a1, c1, s, t, rfl, hb3, k1, k2, k3, k4⟩
      exact ⟨_, s, t, rfl, hb3, k1, k2, ⟨k2, k4, a1, c1, rfl, k3⟩, fun _ _ _ h => absurd h (by decide)⟩
    · obtain rfl := Option.some.inj ho
      have e1 := evTmp (hF.ev 1 (by kernel_rfl) rfl)
      refine stepGL (v := .pointer (some ⟨w.heap.size, 4, none⟩)) (s := w'.heap.size) (t := w'.heap.size) (w'' := w') ?_ ?_ ?_ ?_ ?_ ?_
      · simp [execOp, e1, go_sem]
      · exact Below.refl _ _
      · exact Nat.le_refl _
      · exact Nat.le_refl _
      · exact rfl
      · exact fun _ _ _ h => absurd h (by decide)
    · obtain rfl := Option.some.inj ho
      obtain ⟨_, _, e'⟩ := hdeps ⟨14, .data⟩ (by simp) (by rfl) _ 17 rfl rfl
      have e := evTmp (show a'.eval (.tmp 17) = .pointer (some ⟨w.heap.size, 4, none⟩) from e')
      have hc : w'.cell? ⟨w.heap.size, 4, none⟩ = some (.slice pa pn pc) := by rw [(bcell hB).1 _ _ hb0]; exact c4
      refine stepGL (v := .slice pa pn pc) (s := w'.heap.size) (t := w'.heap.size) (w'' := w') ?_ ?_ ?_ ?_ ?_ ?_
      · simp [execOp, e, go_sem, hc]
      · exact Below.refl _ _
      · exact Nat.le_refl _
      · exact Nat.le_refl _
      · exact rfl
      · exact fun _ _ _ h => absurd h (by decide)
    · obtain rfl := Option.some.inj ho
      obtain ⟨_, _, e2⟩ := hdeps ⟨15, .data⟩ (by simp) (by rfl) _ 18 rfl rfl
      have e2' : a'.eval (.tmp 18) = .slice pa pn pc := e2
      refine stepGLC (f := 54) (args := #[.slice pa pn pc]) (by simp [execOp, resolve, evTmp e2', Act.eval, Deferred.ofValue, invoke, go_sem]) ?_
      refine (implCopyInts pa pn pc ps w' (HIW.out.2.2.2.be hB hhW) (by have := hB.size; omega) hsz.2.2.2).mono ?_
      rintro e w3 ⟨a1, c1, s, t, rfl, hb3, k1, k2, k3, k4⟩
      exact ⟨_, s, t, rfl, hb3, k1, k2, ⟨k2, k4, a1, c1, rfl, k3⟩, fun _ _ _ h => absurd h (by decide)⟩
  · intro a' w' s t hB hF hV hD hLL
    obtain ⟨⟨l⟩, df⟩ := a'
    obtain rfl : df = [] := hF.1
    have hlen : l.length = 21 := hF.2.1
    match l, hlen with
    | [u0, u1, u2, u3, u4, u5, u6, u7, u8, u9, u10, u11, u12, u13, u14, u15, u16, u17, u18, u19, u20], _ =>
      have e2 : u2 = .pointer (some ⟨w.heap.size + 1, 0, none⟩) := hF.at 2 (by kernel_rfl)
      obtain ⟨hs6, ht6, _, a6, c6, e9, r6⟩ := hV 6 _ 9 (by omega) rfl rfl
      obtain ⟨hs10, ht10, _, _, a10, c10, e13, r10⟩ := hV 10 _ 13 (by omega) rfl rfl
      obtain ⟨hs13, ht13, _, _, a13, c13, e16, r13⟩ := hV 13 _ 16 (by omega) rfl rfl
      obtain ⟨hs16, ht16, _, _, a16, c16, e19, r16⟩ := hV 16 _ 19 (by omega) rfl rfl
      have e10 : u10 = .agg #[.int .i64 ar, u9] := hLL 7 (by omega) rfl
      replace e9 : u9 = .slice a6 n c6 := e9
      replace e13 : u13 = .slice a10 ln c10 := e13
      replace e16 : u16 = .slice a13 gn c13 := e16
      replace e19 : u19 = .slice a16 pn c16 := e19
      subst e9; subst e10; subst e13; subst e16; subst e19; subst e2
      have Q0 : w'.cell? ⟨w.heap.size + 1, 0, none⟩ = some (.int .i64 0) := by rw [(bcell hB).1 _ _ hb1]; exact q0
      have F0 : w'.frozen? ⟨w.heap.size + 1, 0, none⟩ = false := by rw [(bcell hB).2 _ _ hb1]; exact f0
      have Q1 : w'.cell? ⟨w.heap.size + 1, 1, none⟩ = some (.slice none 0 0) := by rw [(bcell hB).1 _ _ hb1]; exact q1
      have F1 : w'.frozen? ⟨w.heap.size + 1, 1, none⟩ = false := by rw [(bcell hB).2 _ _ hb1]; exact f1
      have Q2 : w'.cell? ⟨w.heap.size + 1, 2, none⟩ = some (.slice none 0 0) := by rw [(bcell hB).1 _ _ hb1]; exact q2
      have F2 : w'.frozen? ⟨w.heap.size + 1, 2, none⟩ = false := by rw [(bcell hB).2 _ _ hb1]; exact f2
      have Q3 : w'.cell? ⟨w.heap.size + 1, 3, none⟩ = some (.slice none 0 0) := by rw [(bcell hB).1 _ _ hb1]; exact q3
      have F3 : w'.frozen? ⟨w.heap.size + 1, 3, none⟩ = false := by rw [(bcell hB).2 _ _ hb1]; exact f3
      have Q4 : w'.cell? ⟨w.heap.size + 1, 4, none⟩ = some (.slice none 0 0) := by rw [(bcell hB).1 _ _ hb1]; exact q4
      have F4 : w'.frozen? ⟨w.heap.size + 1, 4, none⟩ = false := by rw [(bcell hB).2 _ _ hb1]; exact f4
      have HD := hid (And.intro (hD 6 10 (by omega) (by omega) (by omega)) (And.intro (hD 6 13 (by omega) (by omega) (by omega)) (And.intro (hD 6 16 (by omega) (by omega) (by omega)) (And.intro (hD 10 13 (by omega) (by omega) (by omega)) (And.intro (hD 10 16 (by omega) (by omega) (by omega)) (hD 13 16 (by omega) (by omega) (by omega)))))))
      have HR := hid (And.intro r6 (And.intro r10 (And.intro r13 (And.intro r16 (And.intro (And.intro hs6 ht6) (And.intro (And.intro hs10 ht10) (And.intro (And.intro hs13 ht13) (And.intro hs16 ht16))))))))
      have HBB := hid hB
      clear hV hD hF hLL r6 r10 r13 r16 hs6 ht6 hs10 ht10 hs13 ht13 hs16 ht16 hB q0 f0 q1 f1 q2 f2 q3 f3 q4 f4
      change wpList _ _ _ [_, _] _ _
      go_wp2
      have hzz := HBB.out.size
      refine bodyPost_ret (v := iterV ar a6 n c6 a10 ln c10 a13 gn c13 a16 pn c16) (by simp [results, Try.results32, go_sem, Q0, Q1, Q2, Q3, Q4]) rfl ⟨_, _, _, _, _, _, _, _, _, _, _, _, rfl, ?_, ?_⟩
      · have h1 : IterX (w.heap.size + 2) w'.heap.size w' ar a6 n c6 rows a10 ln c10 lw a13 gn c13 gh a16 pn c16 ps := ⟨HAR.out, _, _, _, _, _, _, _, _, HR.out.1, HR.out.2.1, HR.out.2.2.1, HR.out.2.2.2.1, by have h := HD.out; have h2 := HR.out.2.2.2.2; have h3 := HZ.out; unfold Apart4; omega⟩
        refine hgIterX (hi := w'.heap.size) (wdIterX (lo := w.heap.size + 2) (kpIterX h1 ?_) (by omega)) (by simp only [sz_set]; exact Nat.le_refl _)
        exact Keeps.sc (Keeps.sc (Keeps.sc (Keeps.sc (Keeps.sc (Keeps.refl _ _ _) (.inl (by omega)) _) (.inl (by omega)) _) (.inl (by omega)) _) (.inl (by omega)) _) (.inl (by omega)) _
      · have hq := HBW.out.trans (HBB.out.mono (by omega)); exact (by repeat (first | with_reducible assumption | with_reducible exact Below.refl _ _ | with_reducible refine below_drewN ?_ _ | with_reducible refine below_drew1 ?_ | with_reducible refine Below.al ?_ (by first | with_reducible exact Nat.le_refl _ | omega | (simp; done) | (simp; omega) | exact Nat.le_refl _) _ | with_reducible refine Below.setCell ?_ (by first | with_reducible exact Nat.le_refl _ | omega | (simp; done) | (simp; omega) | exact Nat.le_refl _) _ | assumption | exact Below.refl _ _ | refine below_drewN ?_ _ | refine below_drew1 ?_ | refine Below.al ?_ (by first | with_reducible exact Nat.le_refl _ | omega | (simp; done) | (simp; omega) | exact Nat.le_refl _) _ | refine Below.setCell ?_ (by first | with_reducible exact Nat.le_refl _ | omega | (simp; done) | (simp; omega) | exact Nat.le_refl _) _))
theorem implCopyIt {fz : Bool} {lo hi : Nat} (ar : Int) (a : Option Addr) (n c : Nat) (rows : List (List Int)) (la : Option Addr) (ln lc : Nat) (lw : List Int) (ga : Option Addr) (gn gc : Nat) (gh : List Int) (pa : Option Addr) (pn pc : Nat) (ps : List Int) (w : World) (hI : IterA fz lo hi w ar a n c rows la ln lc lw ga gn gc gh pa pn pc ps) (hh : hi ≤ w.heap.size) (hs : szIter rows lw gh ps ≤ 1048576) :
    Calls Try.prog 32 #[iterV ar a n c la ln lc ga gn gc pa pn pc] w (GvIterS w ar rows lw gh ps) := (implCopyItX ar a n c rows la ln lc lw ga gn gc gh pa pn pc ps w hI hh hs).mono fun _ _ h => h.s
end Go.Proofs.Ythochdlbmaiclaa
