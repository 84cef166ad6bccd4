/- Lemmas for the proof of FnExactMaximize, part 50 of 54: no condition of their own. -/
import Derived.Test.YtpbclpopoodklaaBC
import Derived.Test.YtpbclpopoodklaaRMk
import Derived.Test.YtpbclpopoodklaaSY
import Derived.Test.YtpbclpopoodklaaK1
namespace Go.Proofs.Ytpbclpopoodklaa
set_option linter.unusedSimpArgs false
set_option linter.unusedVariables false
open Go.RowKit
section
variable {C : Nat → Nat → Prop} {fz : Bool} {lo hi : Nat} {w : World} {a : Option Addr} {n c : Nat}
theorem rats_cxc {xs : List RatD} (h : RatsA fz lo hi w a n c xs) (hC : ∀ b i, lo ≤ b → b < hi → w.cell? ⟨b, i, none⟩ ≠ none → C b i) : CX C w (ratsD xs) [.slice a n c] := by
  have h0 := rats_cx (C := fun b i => lo ≤ b ∧ b < hi) h (fun b i h1 h2 => ⟨h1, h2⟩)
  obtain ⟨a, n, c, vs, e, h2, h3, h4, h5, h6, h7, h8, h9⟩ := h0
  simp only [List.cons.injEq, Value.slice.injEq, and_true] at e
  obtain ⟨rfl, rfl, rfl⟩ := e
  have hk : ∀ (xs : List RatD) (us : List Value), CXk (fun b i => lo ≤ b ∧ b < hi) w 2 (xs.map ratDV) us → CXk C w 2 (xs.map ratDV) us := by
    intro xs
    induction xs with
    | nil => intro us h; exact h
    | cons x xs ih =>
      intro us h
      obtain ⟨u, v, rfl, g1, g2, g3⟩ := h
      exact ⟨u, v, rfl, cxs_two.2 (cxs_two.1 g1), g2, ih _ g3⟩
  refine ⟨_, _, _, vs, rfl, h2, hk _ _ h3, h4, h5, h6, h7, h8, fun hn => ?_⟩
  obtain ⟨b, off, ha, hc⟩ := h9 hn
  exact ⟨b, off, ha, fun i u hu => ⟨hC b _ (hc i u hu).1.1 (hc i u hu).1.2 (by rw [(hc i u hu).2]; exact fun x => (by cases x)), (hc i u hu).2⟩⟩
theorem mat_cxc {xss : List (List RatD)} (h : MatA fz lo hi w a n c xss) (hC : ∀ b i, lo ≤ b → b < hi → w.cell? ⟨b, i, none⟩ ≠ none → C b i) : CX C w (matD xss) [.slice a n c] := by
  have hl := h.len
  by_cases hn : 0 < n
  · obtain ⟨b, off, rfl⟩ := matSome h hn
    have hex : ∃ f : Nat → Value, ∀ i, i < n → (∃ ra rn rc, f i = .slice ra rn rc ∧ RatsA fz lo hi w ra rn rc (mx xss i)) ∧ w.cell? ⟨b, off + i, none⟩ = some (f i) := by
      refine ⟨fun i => (w.cell? ⟨b, off + i, none⟩).getD undef, fun i hi => ?_⟩
      obtain ⟨_, _, ra, rn, rc, g1, g2, _⟩ := matAt h hi
      exact ⟨⟨ra, rn, rc, by simp only [g1]; rfl, g2⟩, by simp only [g1]; rfl⟩
    obtain ⟨f, hf⟩ := hex
    refine ⟨_, n, c, (List.range n).map f, rfl, by simpa using hl, CXk.singles.2 ⟨by simp [hl], fun i x hx => ?_⟩, by simp, h.2.1, h.2.2.1, h.2.2.2.2, fun u hu => ?_, fun _ => ⟨b, off, rfl, fun i u hu => ?_⟩⟩
    · rw [List.getElem?_map] at hx
      cases e : xss[i]? with
      | none => rw [e] at hx; cases hx
      | some y =>
        rw [e] at hx; cases hx
        have hi : i < xss.length := (List.getElem?_eq_some_iff.1 e).1
        obtain ⟨⟨ra, rn, rc, g1, g2⟩, _⟩ := hf i (by omega)
        have hy : mx xss i = y := by simp [mx, List.getD, e]
        exact ⟨f i, by simp [show i < n by omega], by rw [g1, ← hy]; exact rats_cxc g2 hC⟩
    · obtain ⟨i, hi, rfl⟩ := List.mem_map.1 hu
      obtain ⟨⟨ra, rn, rc, g1, _⟩, _⟩ := hf i (by simpa using hi)
      rw [g1]; rfl
    · have hi : i < n := by have := (List.getElem?_eq_some_iff.1 hu).1; simpa using this
      simp [hi] at hu
      subst hu
      obtain ⟨⟨ra, rn, rc, g1, _⟩, g2⟩ := hf i hi
      obtain ⟨p1, p2, _⟩ := matAt h hi
      exact ⟨hC _ _ p1 p2 (by rw [g2]; exact fun x => (by cases x)), g2⟩
  · obtain rfl : n = 0 := by omega
    obtain rfl := List.eq_nil_of_length_eq_zero hl
    exact ⟨a, 0, c, [], rfl, rfl, rfl, by simp, h.2.1, h.2.2.1, h.2.2.2.2, fun u hu => (by cases hu), fun h => absurd h (Nat.lt_irrefl 0)⟩
theorem lp_cvs {lo' : Nat} {xs : List (List RatD)} {ba ca : Option Addr} {bn bc cn cc : Nat} {bs cs : List RatD} (h : LPA fz lo hi w a n c xs ba bn bc bs ca cn cc cs) (hh : hi ≤ w.heap.size) (hl : lo' ≤ lo) (G : Gh) (hG : G.C = cellsC lo' w) : CV G w (.d (lpD xs bs cs)) (lpVal a n c ba bn bc ca cn cc) := by
  have hC : ∀ b i, lo ≤ b → b < hi → w.cell? ⟨b, i, none⟩ ≠ none → G.C b i := fun b i h1 h2 h3 => by rw [hG]; exact ⟨by omega, by omega, h3⟩
  exact cvAgg.2 ⟨[.slice a n c, .slice ba bn bc, .slice ca cn cc], ⟨[.slice a n c], _, rfl, mat_cxc h.1 hC, [.slice ba bn bc], _, rfl, rats_cxc h.2.1 hC, [.slice ca cn cc], [], rfl, rats_cxc h.2.2 hC, rfl⟩, rfl⟩
theorem cxk_rats : ∀ {xs : List RatD} {us : List Value}, CXk C w 2 (xs.map ratDV) us → us = flatR xs ∧ ∀ i, i < xs.length → I64 (qx xs i).num ∧ I64 (qx xs i).den
  | [], us, h => ⟨h, fun i hi => absurd hi (Nat.not_lt_zero _)⟩
  | x :: xs, us, h => by
    obtain ⟨u, v, rfl, g1, g2, g3⟩ := h
    obtain ⟨e, i1, i2⟩ := cxs_two.1 g1
    obtain ⟨e2, h2⟩ := cxk_rats g3
    subst e; subst e2
    refine ⟨rfl, fun i hi => ?_⟩
    cases i with
    | zero => exact ⟨i1, i2⟩
    | succ i => exact h2 i (by simpa using hi)
theorem ratsMk0 {xs : List RatD} (hl : xs.length = n) (hnc : n ≤ c) (hcm : c ≤ maxLen) (ha : a = none → c = 0) (hI : ∀ i, i < xs.length → I64 (qx xs i).num ∧ I64 (qx xs i).den)
    (h : 0 < n → ∃ b off, a = some ⟨b, off, none⟩ ∧ lo ≤ b ∧ b < hi ∧ ∀ i u, (flatR xs)[i]? = some u → w.cell? ⟨b, off + i, none⟩ = some u ∧ (fz = true → w.frozen? ⟨b, off + i, none⟩ = false)) : RatsA fz lo hi w a n c xs := by
  by_cases hn : 0 < n
  · obtain ⟨b, off, rfl, h1, h2, h3⟩ := h hn
    refine ratsMk hl hnc hcm h1 h2 fun i hi => ?_
    have f := flatR_at (xs := xs) (i := i) (by omega)
    have g1 := h3 _ _ f.1
    have g2 := h3 _ _ f.2
    exact ⟨(hI i (by omega)).1, (hI i (by omega)).2, g1.1, g2.1, fun e => ⟨g1.2 e, g2.2 e⟩⟩
  · exact ⟨hl, hnc, hcm, fun h => absurd h hn, ha⟩
theorem cx_ratsC {xs : List RatD} {us : List Value} (hC : ∀ b i, C b i → lo ≤ b ∧ b < hi) (h : CX C w (ratsD xs) us) : ∃ a n c, us = [.slice a n c] ∧ RatsA false lo hi w a n c xs := by
  obtain ⟨a, n, c, vs, rfl, h2, h3, h4, h5, h6, h7, h8, h9⟩ := h
  obtain ⟨rfl, hI⟩ := cxk_rats h3
  rw [List.length_map] at h2
  refine ⟨a, n, c, rfl, ratsMk0 h2 h5 h6 h7 hI fun hn => ?_⟩
  obtain ⟨b, off, ha, hc⟩ := h9 hn
  have f := flatR_at (xs := xs) (i := 0) (by omega)
  have hb := hC b _ (hc _ _ f.1).1
  exact ⟨b, off, ha, hb.1, hb.2, fun i u hu => ⟨(hc i u hu).2, fun h => (by cases h)⟩⟩
theorem cx_matC {xss : List (List RatD)} {us : List Value} (hC : ∀ b i, C b i → lo ≤ b ∧ b < hi) (h : CX C w (matD xss) us) : ∃ a n c, us = [.slice a n c] ∧ MatA false lo hi w a n c xss := by
  obtain ⟨a, n, c, vs, rfl, h2, h3, h4, h5, h6, h7, h8, h9⟩ := h
  simp only [List.length_map] at h2
  obtain ⟨g1, g2⟩ := CXk.singles.1 h3
  refine ⟨a, n, c, rfl, h2, h5, h6, fun hn => ?_, h7⟩
  obtain ⟨b, off, ha, hc⟩ := h9 hn
  have hat : ∀ i (hj : i < xss.length), ∃ u, vs[i]? = some u ∧ ∃ ra rn rc, u = .slice ra rn rc ∧ RatsA false lo hi w ra rn rc xss[i] := fun i hj => by
    obtain ⟨u, hu, hx⟩ := g2 i (ratsD xss[i]) (by rw [List.getElem?_map, List.getElem?_eq_getElem hj]; rfl)
    obtain ⟨ra, rn, rc, e, hI⟩ := cx_ratsC hC hx
    simp only [List.cons.injEq, and_true] at e
    exact ⟨u, hu, ra, rn, rc, e, hI⟩
  obtain ⟨u0, hu0, _⟩ := hat 0 (by omega)
  have hb := hC b _ (hc 0 u0 hu0).1
  refine ⟨b, off, ha, hb.1, hb.2, fun i hi => ?_⟩
  obtain ⟨u, hu, ra, rn, rc, rfl, hI⟩ := hat i (by omega)
  refine ⟨[.slice ra rn rc], xss[i], rfl, List.getElem?_eq_getElem (by omega), ⟨ra, rn, rc, rfl, hI⟩, fun j hj => ?_⟩
  obtain rfl : j = 0 := by omega
  exact ⟨by simpa using (hc i _ hu).2, fun h => (by cases h)⟩
theorem wh_rats {xs : List RatD} {u : Value} (hT : ∀ b, Tag C b → lo ≤ b) (hC : ∀ b i, C b i → b < w.heap.size) (hf : ∀ b i, C b i → lo ≤ b → w.frozen? ⟨b, i, none⟩ = false) (hlo : lo < w.heap.size) (h : CX C w (whQ xs) [u]) :
    ∃ s t : Nat, lo ≤ s ∧ t ≤ w.heap.size ∧ HeadI w s t ∧ (s < t ∨ s = t ∧ t = lo) ∧ ∃ ra rn rc, u = .slice ra rn rc ∧ RatsA true s t w ra rn rc xs ∧ (s < t → ra = some ⟨s, 0, none⟩) ∧ (s = t → xs.length = 0) := by
  obtain ⟨ra, rn, rc, rs, e1, e2, e3, ⟨f1, f2, f3, f4, f5, f6⟩, f7⟩ := h
  simp only [List.cons.injEq, and_true] at e1
  subst e1
  obtain ⟨rfl, hI⟩ := cxk_rats e3
  simp only [List.length_map] at e2
  by_cases hr : 0 < rn
  · obtain ⟨rb, roff, hra, hrc⟩ := f6 hr
    obtain ⟨rb', hra', hrt⟩ := f7 hr
    rw [hra] at hra'
    simp only [Option.some.injEq, Addr.mk.injEq, and_true] at hra'
    obtain ⟨rfl, rfl⟩ := hra'
    have c0 := hrc _ _ (flatR_at (xs := xs) (i := 0) (by omega)).1
    have hb1 := hC rb _ c0.1
    have hb2 := hT rb hrt
    refine ⟨rb, rb + 1, hb2, by omega, fun _ => ⟨rfl, _, c0.2⟩, .inl (by omega), ra, rn, rc, rfl, ratsMk0 e2 f2 f3 f4 hI (fun _ => ⟨rb, 0, hra, Nat.le_refl _, by omega, fun i u hu => ⟨(hrc i u hu).2, fun _ => hf rb _ (hrc i u hu).1 hb2⟩⟩), fun _ => hra, fun h => by omega⟩
  · exact ⟨lo, lo, Nat.le_refl _, by omega, fun h => absurd h (Nat.lt_irrefl _), .inr ⟨rfl, rfl⟩, ra, rn, rc, rfl, ratsMk0 e2 f2 f3 f4 hI (fun h => absurd h hr), fun h => absurd h (Nat.lt_irrefl _), fun _ => by omega⟩
theorem mats_apart {q : Nat} {xss : List (List RatD)} {us : List Value} (hT : ∀ b, Tag C b → lo ≤ b) (hC : ∀ b i, C b i → b < w.heap.size) (hf : ∀ b i, C b i → lo ≤ b → w.frozen? ⟨b, i, none⟩ = false)
    (hq : ∀ x ∈ xss, x.length = q) (hd : xss.Nodup) (h : CX C w (.wh 1 (xss.map whQ)) us) : ∃ a n c, us = [.slice a n c] ∧ MatS lo w.heap.size w a n c xss := by
  obtain ⟨a, n, c, vs, rfl, h2, h3, ⟨h4, h5, h6, h7, h8, h9⟩, h10⟩ := h
  simp only [List.length_map] at h2
  obtain ⟨g1, g2⟩ := CXk.singles.1 h3
  simp only [List.length_map] at g1
  refine ⟨a, n, c, rfl, h2, h5, h6, fun hn => ?_, h7⟩
  obtain ⟨b, off, ha, hc⟩ := h9 hn
  obtain ⟨b', ha', htag⟩ := h10 hn
  rw [ha] at ha'
  simp only [Option.some.injEq, Addr.mk.injEq, and_true] at ha'
  obtain ⟨rfl, rfl⟩ := ha'
  have hlo := hT b htag
  have hbs := hC b _ (hc 0 _ (List.getElem?_eq_getElem (by omega : 0 < vs.length))).1
  have hrow : ∀ i, i < xss.length → ∃ s t : Nat, lo ≤ s ∧ t ≤ w.heap.size ∧ HeadI w s t ∧ (s < t ∨ s = t ∧ t = lo) ∧ ∃ ra rn rc, vs[i]? = some (.slice ra rn rc) ∧ RatsA true s t w ra rn rc (mx xss i) ∧ (s < t → ra = some ⟨s, 0, none⟩) ∧ (s = t → (mx xss i).length = 0) := fun i hi => by
    obtain ⟨u, hu, hx⟩ := g2 i (whQ (mx xss i)) (by rw [List.getElem?_map, List.getElem?_eq_getElem hi, mx_lt hi]; rfl)
    obtain ⟨s, t, q1, q2, q3, q4, ra, rn, rc, rfl, q6, q7, q8⟩ := wh_rats hT hC hf (by omega) hx
    exact ⟨s, t, q1, q2, q3, q4, ra, rn, rc, hu, q6, q7, q8⟩
  have hex : ∃ s t : Nat → Nat, ∀ i, i < xss.length → lo ≤ s i ∧ t i ≤ w.heap.size ∧ HeadI w (s i) (t i) ∧ (s i < t i ∨ s i = t i ∧ t i = lo) ∧ ∃ ra rn rc, vs[i]? = some (.slice ra rn rc) ∧ RatsA true (s i) (t i) w ra rn rc (mx xss i) ∧ (s i < t i → ra = some ⟨s i, 0, none⟩) ∧ (s i = t i → (mx xss i).length = 0) := by
    refine ⟨fun i => if h : i < xss.length then Classical.choose (hrow i h) else 0, fun i => if h : i < xss.length then Classical.choose (Classical.choose_spec (hrow i h)) else 0, fun i hi => ?_⟩
    simp only [dif_pos hi]
    exact Classical.choose_spec (Classical.choose_spec (hrow i hi))
  obtain ⟨s, t, hst⟩ := hex
  refine ⟨b, 0, ha, hlo, hbs, vs, ⟨by omega, s, t, fun i hi => ?_, fun i j hi hj hij => ?_⟩, fun i u hu => ⟨(hc i u hu).2, hf b _ (hc i u hu).1 hlo⟩⟩
  · obtain ⟨q1, q2, q3, q4, ra, rn, rc, q5, q6, _⟩ := hst i hi
    exact ⟨q1, q2, q3, ra, rn, rc, mx xss i, by rw [List.getElem?_eq_getElem hi, mx_lt hi], q5, q6⟩
  · obtain ⟨q1, q2, q3, q4, ra, rn, rc, q5, q6, q7, q8⟩ := hst i hi
    obtain ⟨p1, p2, p3, p4, ra', rn', rc', p5, p6, p7, p8⟩ := hst j hj
    rcases q4 with q4 | ⟨q4, q4'⟩
    · rcases p4 with p4 | ⟨p4, p4'⟩
      · have e1 := (q3 q4).1
        have e2 := (p3 p4).1
        by_cases e : s i = s j
        · exfalso
          have hne : mx xss i ≠ mx xss j := by
            rw [mx_lt hi, mx_lt hj]
            have hp := List.pairwise_iff_getElem.1 hd
            rcases Nat.lt_or_gt_of_ne hij with h | h
            · exact hp i j hi hj h
            · exact fun e => hp j i hj hi h e.symm
          apply hne
          have l1 : (mx xss i).length = q := hq _ (by rw [mx_lt hi]; exact List.getElem_mem _)
          have l2 : (mx xss j).length = q := hq _ (by rw [mx_lt hj]; exact List.getElem_mem _)
          have r1 := q6.len
          have r1' := p6.len
          by_cases h0 : 0 < rn
          · rw [q7 q4] at q6
            rw [p7 p4, ← e] at p6
            apply List.ext_getElem (by omega)
            intro m hm hm'
            have t1 := ratsAt q6 (show m < rn by omega)
            have t2 := ratsAt p6 (show m < rn' by omega)
            have u1 := t1.2.2.2.2.1
            have u2 := t1.2.2.2.2.2.1
            rw [t2.2.2.2.2.1] at u1
            rw [t2.2.2.2.2.2.1] at u2
            simp only [Option.some.injEq, Value.int.injEq, true_and] at u1 u2
            rw [← qx_lt hm, ← qx_lt hm']
            cases hq1 : qx (mx xss i) m
            cases hq2 : qx (mx xss j) m
            rw [hq1, hq2] at u1 u2
            simp only at u1 u2
            rw [u1, u2]
          · rw [List.eq_nil_of_length_eq_zero (by omega : (mx xss i).length = 0), List.eq_nil_of_length_eq_zero (by omega : (mx xss j).length = 0)]
        · omega
      · right; omega
    · left; omega
end
def GvMatR (lo : Nat) (w : World) (xs : List (List RatD)) (e : Ending) (w' : World) : Prop := ∃ a n c, e = .returned (.slice a n c) ∧ MatA false lo w'.heap.size w' a n c xs ∧ Below w.heap.size w w'
def GvMatS (w : World) (xs : List (List RatD)) (e : Ending) (w' : World) : Prop := ∃ a n c, e = .returned (.slice a n c) ∧ MatS w.heap.size w'.heap.size w' a n c xs ∧ Below w.heap.size w w'
theorem mats_read {f : FuncId} {args : List AV} {rows : List (List RatD)} {lo : Nat} {w : World} {vs : List Value} (hA : AFn f args [] (fun r os => r = .d (matD rows) ∧ os = [])) (hv : ∀ G : Gh, G.C = cellsC lo w → CVs G w args vs) (hlw : lo ≤ w.heap.size) :
    Calls Try.prog f vs.toArray w (GvMatR lo w rows) := by
  refine (afn_calls hA (C0 := cellsC lo w) (fun b i h => h.2.1) hv).mono ?_
  rintro e w' ⟨v, G', rfl, h1, hb, hcs, hlc, huf⟩
  have hC : ∀ b i, G'.C b i → lo ≤ b ∧ b < w'.heap.size := fun b i hc => by
    refine ⟨?_, hcs b i hc⟩
    by_cases h : b < w.heap.size
    · exact (hlc b i hc h).1
    · omega
  obtain ⟨a, n, c, e1, hR⟩ := cx_matC hC (cvSl.1 h1)
  simp only [List.cons.injEq, and_true] at e1
  subst e1
  exact ⟨a, n, c, rfl, hR, hb⟩
theorem mats_own {f : FuncId} {args : List AV} {rows : List (List RatD)} {w : World} {vs : List Value} {q : Nat} (hA : AFn f args [] (fun r os => r = .d (.wh 1 (rows.map whQ)) ∧ os = [])) (hq : ∀ x ∈ rows, x.length = q) (hd : rows.Nodup) (hv : ∀ G : Gh, G.C = cellsC 0 w → CVs G w args vs) :
    Calls Try.prog f vs.toArray w (GvMatS w rows) := by
  refine (afn_calls hA (C0 := cellsC 0 w) (fun b i h => h.2.1) hv).mono ?_
  rintro e w' ⟨v, G', rfl, h1, hb, hcs, hlc, huf⟩
  have hT : ∀ b, Tag G'.C b → w.heap.size ≤ b := fun b ⟨N, ht⟩ => by
    by_cases h : b < w.heap.size
    · exact absurd ⟨N, fun i hi => hlc b i (ht i hi) h⟩ (no_tag (lo := 0) (w := w) (b := b))
    · omega
  obtain ⟨a, n, c, e1, hR⟩ := mats_apart hT hcs huf hq hd (cvWh.1 h1)
  simp only [List.cons.injEq, and_true] at e1
  subst e1
  exact ⟨a, n, c, rfl, hR, hb⟩
section
variable {fz : Bool} {lo hi B lo' : Nat} {w w' : World} {a : Option Addr} {n c : Nat} {xs : List (List RatD)}
theorem kpMatS (h : MatS lo hi w a n c xs) (hb : Keeps lo hi w w') : MatS lo hi w' a n c xs := SepA.keep ratsQOK h hb
theorem beMatS (h : MatS lo hi w a n c xs) (hb : Below B w w') (hh : hi ≤ B) : MatS lo hi w' a n c xs := kpMatS h (Keeps.of_below hb hh)
theorem wdMatS (h : MatS lo hi w a n c xs) (hl : lo' ≤ lo) : MatS lo' hi w a n c xs := SepA.wide h hl (Nat.le_refl _)
end
def GvMarkMat (lo hi : Nat) (w : World) (k : Int) (a : Option Addr) (n c : Nat) (xs : List (List RatD)) (e : Ending) (w' : World) : Prop := e = .returned (.int .i64 (k + (mlens xs xs.length * 2 : Nat))) ∧ MarkedG lo hi w w' ∧ MatA true lo hi w' a n c (mkMat k xs)
theorem resK_Mat {lo hi : Nat} (a : Option Addr) (n c : Nat) (xs : List (List RatD)) (k : Int) (w : World) (hI : MatS lo hi w a n c xs) (hh : hi ≤ w.heap.size) (h0 : 0 ≤ k) (h1 : k ≤ 1048576) (hs : matSz xs ≤ 1048576) :
    Calls Try.prog 13 #[.slice a n c, .int .i64 k] w (GvMarkMat lo hi w k a n c xs) := by
  have hl := hI.len
  refine (markMatS a n c xs k w hI h0 (by omega) hs).mono ?_
  rintro e w' ⟨h2, h3, h4⟩
  exact ⟨by rw [h2, hl]; congr 2; omega, .of_marked h3, MatS.mat h4⟩
theorem heldK_Mat {fz : Bool} {lo hi : Nat} (a : Option Addr) (n c : Nat) (xs : List (List RatD)) (k : Int) (w : World) (hI : MatA fz lo hi w a n c (mkMat k xs)) (hh : hi ≤ w.heap.size) (h0 : 0 ≤ k) (h1 : k ≤ 1048576) (hs : matSz xs ≤ 1048576) :
    Calls Try.prog 14 #[.slice a n c, .int .i64 k] w (Leaves w (.int .i64 (k + (mlens xs xs.length * 2 : Nat)))) := by
  have hl : xs.length = n := by rw [← mkMat_len k xs]; exact hI.len
  have := (heldMat a n c xs k w hI h0 (by omega) hs).mono fun _ _ h => h.leaves
  rw [← hl] at this ⊢
  have e : k + ((mlens xs xs.length * 2 : Nat) : Int) = k + 2 * (mlens xs xs.length : Nat) := by omega
  rw [e]
  exact this
theorem row_le {xs : List (List RatD)} : ∀ {j i : Nat}, i < j → (mx xs i).length ≤ mlens xs j
  | j + 1, i, h => by
    rcases Nat.lt_or_ge i j with h1 | h1
    · have := row_le (xs := xs) h1
      simp only [mlens]; omega
    · obtain rfl : i = j := by omega
      simp only [mlens]; omega
section
variable {fz : Bool} {lo hi : Nat} {w : World} {a : Option Addr} {n c : Nat} {xs : List (List RatD)} {ba ca : Option Addr} {bn bc cn cc : Nat} {bs cs : List RatD}
theorem sz_lp (hs : szLP xs bs cs ≤ 1048576) : xs.length ≤ 1048576 ∧ (∀ i, i < xs.length → (mx xs i).length ≤ 1048576) ∧ bs.length ≤ 1048576 ∧ cs.length ≤ 1048576 := by
  unfold szLP matSz at hs
  refine ⟨by omega, fun i hi => ?_, by omega, by omega⟩
  have := row_le (xs := xs) hi
  omega
theorem specFv (h : LPA fz lo hi w a n c xs ba bn bc bs ca cn cc cs) (hh : hi ≤ w.heap.size) (hlw : lo ≤ w.heap.size) (hs : szLP xs bs cs ≤ 1048576) : Calls Try.prog 7 #[lpVal a n c ba bn bc ca cn cc] w (GvMatR lo w (fvF xs bs cs)) := by
  obtain ⟨h1, h2, h3, h4⟩ := sz_lp hs
  exact mats_read (specFvA xs bs cs h1 h3 h4) (vs := [lpVal a n c ba bn bc ca cn cc]) (fun G hG => ⟨_, _, rfl, lp_cvs h hh (Nat.le_refl _) G hG, rfl⟩) hlw
theorem implFv (h : LPA fz lo hi w a n c xs ba bn bc bs ca cn cc cs) (hh : hi ≤ w.heap.size) (hs : szLP xs bs cs ≤ 1048576) : Calls Try.prog 9 #[lpVal a n c ba bn bc ca cn cc] w (GvMatS w (fvF xs bs cs)) := by
  obtain ⟨h1, h2, h3, h4⟩ := sz_lp hs
  exact mats_own (implFvA xs bs cs h1 h2 h3 h4) (vs := [lpVal a n c ba bn bc ca cn cc]) (fv_law xs bs cs).2.1 (fv_law xs bs cs).1 (fun G hG => ⟨_, _, rfl, lp_cvs h hh (Nat.zero_le _) G hG, rfl⟩)
end
theorem mlens_le2 {L : List (List RatD)} {m : Nat} (h : ∀ i, i < L.length → (mx L i).length ≤ m) (j : Nat) (hj : j ≤ L.length) : mlens L j ≤ j * m := by
  induction j with
  | zero => simp [mlens]
  | succ j ih =>
    have := ih (by omega); have h1 := h j (by omega)
    simp only [mlens, Nat.add_mul, Nat.one_mul]; omega
theorem fv_sz (xs : List (List RatD)) (bs cs : List RatD) : matSz (fvF xs bs cs) ≤ 1048576 := by
  obtain ⟨_, h2, h3, h4⟩ := fv_law xs bs cs
  rcases h4 with h4 | h4
  · have h5 := mlens_le2 (L := fvF xs bs cs) (m := 5) (fun i hi => by rw [mx_lt hi, h2 _ (List.getElem_mem _)]; exact h4) _ (Nat.le_refl _)
    unfold matSz
    omega
  · rw [h4]; simp [matSz, mlens]
end Go.Proofs.Ytpbclpopoodklaa
