/- From the contracts on abstract values to those that the laws' walks ask for: lists and rows. -/
import Derived.Test.YtdimcbollnggjaaZD
import Derived.Test.YtdimcbollnggjaaU1
import Derived.Test.YtdimcbollnggjaaMarkS
namespace Go.Proofs.Ytdimcbollnggjaa
set_option linter.unusedSimpArgs false
set_option linter.unusedVariables false
open Go.RowKit
/-- the cells from block lo on that are there -/
def cellsC (lo : Nat) (w : World) : Nat → Nat → Prop := fun b i => lo ≤ b ∧ b < w.heap.size ∧ w.cell? ⟨b, i, none⟩ ≠ none
theorem no_tag {lo : Nat} {w : World} {b : Nat} : ¬ Tag (cellsC lo w) b := by
  rintro ⟨N, h⟩
  have h0 := (h N (Nat.le_refl _)).2.1
  obtain ⟨o, ho⟩ : ∃ o, w.heap[b]? = some o := ⟨_, Array.getElem?_eq_getElem h0⟩
  cases o with
  | cells arr e fz =>
    have h1 := (h (N + arr.size) (by omega)).2.2
    simp only [World.cell?, ho] at h1
    simp at h1
  | _ =>
    have h1 := (h N (Nat.le_refl _)).2.2
    simp [World.cell?, ho] at h1
theorem ints_cxc {C : Nat → Nat → Prop} {fz : Bool} {lo hi : Nat} {w : World} {a : Option Addr} {n c : Nat} {xs : List Int} (h : IntsA fz lo hi w a n c xs) (hC : ∀ b i, lo ≤ b → b < hi → w.cell? ⟨b, i, none⟩ ≠ none → C b i) : CX C w (intsD xs) [.slice a n c] := by
  obtain ⟨h1, h2, h3, h4, h5, h6⟩ := h
  refine ⟨a, n, c, xs.map (Value.int .i64), rfl, by simpa using h1, CXk.singles.2 ⟨by simp, fun i x hx => ?_⟩, by simp [h1], h2, h3, h6, fun u hu => ?_, fun hn => ?_⟩
  · rw [List.getElem?_map] at hx
    cases e : xs[i]? with
    | none => rw [e] at hx; cases hx
    | some y => rw [e] at hx; cases hx; exact ⟨.int .i64 y, by simp [e], rfl, h4 y (List.mem_of_getElem? e)⟩
  · obtain ⟨x, _, rfl⟩ := List.mem_map.1 hu; rfl
  · obtain ⟨b, off, ha, hl, hb, hc⟩ := h5 hn
    refine ⟨b, off, ha, fun i u hu => ?_⟩
    rw [List.getElem?_map] at hu
    cases e : xs[i]? with
    | none => rw [e] at hu; cases hu
    | some y =>
      rw [e] at hu
      cases hu
      have hi : i < xs.length := (List.getElem?_eq_some_iff.1 e).1
      have h8 := (hc i (by omega)).1
      exact ⟨hC _ _ hl hb (by rw [h8]; exact fun x => nomatch x), by rw [h8, ix_lt hi, (List.getElem?_eq_some_iff.1 e).2]⟩
theorem rows_cxc {C : Nat → Nat → Prop} {fz : Bool} {lo hi : Nat} {w : World} {a : Option Addr} {n c : Nat} {xss : List (List Int)} (h : RowsA fz lo hi w a n c xss) (hC : ∀ b i, lo ≤ b → b < hi → w.cell? ⟨b, i, none⟩ ≠ none → C b i) : CX C w (rowsD xss) [.slice a n c] := by
  obtain ⟨h1, h2, h3, h4, h5⟩ := h
  by_cases hn : 0 < n
  · obtain ⟨b, off, ha, hl, hb, hc⟩ := h4 hn
    have hat : ∀ i, i < n → ∃ ra rn rc, IntsA fz lo hi w ra rn rc (rx xss i) ∧ w.cell? ⟨b, off + i, none⟩ = some (.slice ra rn rc) := fun i hi => by
      obtain ⟨cs, x, e1, e2, ⟨ra, rn, rc, e3, e4⟩, e5⟩ := hc i hi
      subst e3
      have hx : rx xss i = x := by simp [rx, List.getD, e2]
      have := (e5 0 (by simp)).1
      exact ⟨ra, rn, rc, by rw [hx]; exact e4, by simpa using this⟩
    have hex : ∃ f : Nat → Value, ∀ i, i < n → (∃ ra rn rc, f i = .slice ra rn rc ∧ IntsA fz lo hi w ra rn rc (rx xss i)) ∧ w.cell? ⟨b, off + i, none⟩ = some (f i) := by
      refine ⟨fun i => (w.cell? ⟨b, off + i, none⟩).getD undef, fun i hi => ?_⟩
      obtain ⟨ra, rn, rc, g1, g2⟩ := hat i hi
      refine ⟨⟨ra, rn, rc, by simp only [g2]; rfl, g1⟩, by simp only [g2]; rfl⟩
    obtain ⟨f, hf⟩ := hex
    refine ⟨a, n, c, (List.range n).map f, rfl, by simpa using h1, CXk.singles.2 ⟨by simp [h1], fun i x hx => ?_⟩, by simp, h2, h3, h5, fun u hu => ?_, fun _ => ⟨b, off, ha, fun i u hu => ?_⟩⟩
    · rw [List.getElem?_map] at hx
      cases e : xss[i]? with
      | none => rw [e] at hx; cases hx
      | some y =>
        rw [e] at hx; cases hx
        have hi : i < xss.length := (List.getElem?_eq_some_iff.1 e).1
        obtain ⟨⟨ra, rn, rc, g1, g2⟩, _⟩ := hf i (by omega)
        have hy : rx xss i = y := by simp [rx, List.getD, e]
        exact ⟨f i, by simp [show i < n by omega], by rw [g1, ← hy]; exact ints_cxc g2 hC⟩
    · obtain ⟨i, hi, rfl⟩ := List.mem_map.1 hu
      obtain ⟨⟨ra, rn, rc, g1, _⟩, _⟩ := hf i (by simpa using hi)
      rw [g1]; rfl
    · have hi : i < n := by have := (List.getElem?_eq_some_iff.1 hu).1; simpa using this
      simp [hi] at hu
      subst hu
      obtain ⟨⟨ra, rn, rc, g1, _⟩, g2⟩ := hf i hi
      exact ⟨hC _ _ hl hb (by rw [g2]; exact fun x => nomatch x), g2⟩
  · obtain rfl : n = 0 := by omega
    obtain rfl := List.eq_nil_of_length_eq_zero h1
    exact ⟨a, 0, c, [], rfl, rfl, rfl, by simp, h2, h3, h5, fun u hu => (nomatch hu), fun h => absurd h (Nat.lt_irrefl 0)⟩
/-- what is read off data: lists and rows in cells of C -/
theorem cx_intsC {C : Nat → Nat → Prop} {lo hi : Nat} {w : World} {xs : List Int} {us : List Value} (hC : ∀ b i, C b i → lo ≤ b ∧ b < hi) (h : CX C w (intsD xs) us) : ∃ a n c, us = [.slice a n c] ∧ IntsA false lo hi w a n c xs := by
  obtain ⟨a, n, c, vs, rfl, h2, h3, h4, h5, h6, h7, h8, h9⟩ := h
  obtain ⟨g1, g2⟩ := CXk.singles.1 h3
  simp only [List.length_map] at h2 g1
  have hx : ∀ i, i < n → vs[i]? = some (.int .i64 (ix xs i)) ∧ I64 (ix xs i) := fun i hi => by
    obtain ⟨u, hu, e, hI⟩ := g2 i (.int (ix xs i)) (by rw [List.getElem?_map, ix_lt (by omega)]; simp [show i < xs.length by omega])
    simp only [List.cons.injEq, and_true] at e
    subst e
    exact ⟨hu, hI⟩
  refine ⟨a, n, c, rfl, h2, h5, h6, fun x hx' => ?_, fun hn => ?_, h7⟩
  · obtain ⟨i, hi, rfl⟩ := List.mem_iff_getElem.1 hx'
    have := (hx i (by omega)).2
    rwa [ix_lt hi] at this
  · obtain ⟨b, off, ha, hc⟩ := h9 hn
    have hb := hC b _ (hc 0 _ (hx 0 hn).1).1
    refine ⟨b, off, ha, hb.1, hb.2, fun i hi => ⟨(hc i _ (hx i hi).1).2, fun h => (nomatch h)⟩⟩
theorem cx_rowsC {C : Nat → Nat → Prop} {lo hi : Nat} {w : World} {xss : List (List Int)} {us : List Value} (hC : ∀ b i, C b i → lo ≤ b ∧ b < hi) (h : CX C w (rowsD xss) us) : ∃ a n c, us = [.slice a n c] ∧ RowsA false lo hi w a n c xss := by
  obtain ⟨a, n, c, vs, rfl, h2, h3, h4, h5, h6, h7, h8, h9⟩ := h
  simp only [List.length_map] at h2
  obtain ⟨g1, g2⟩ := CXk.singles.1 h3
  refine ⟨a, n, c, rfl, h2, h5, h6, fun hn => ?_, h7⟩
  obtain ⟨b, off, ha, hc⟩ := h9 hn
  have hat : ∀ i (hj : i < xss.length), ∃ u, vs[i]? = some u ∧ ∃ ra rn rc, u = .slice ra rn rc ∧ IntsA false lo hi w ra rn rc xss[i] := fun i hj => by
    obtain ⟨u, hu, hx⟩ := g2 i (intsD xss[i]) (by rw [List.getElem?_map, List.getElem?_eq_getElem hj]; rfl)
    obtain ⟨ra, rn, rc, e, hI⟩ := cx_intsC hC hx
    simp only [List.cons.injEq, and_true] at e
    exact ⟨u, hu, ra, rn, rc, e, hI⟩
  obtain ⟨u0, hu0, _⟩ := hat 0 (by omega)
  have hb := hC b _ (hc 0 u0 hu0).1
  refine ⟨b, off, ha, hb.1, hb.2, fun i hi => ?_⟩
  obtain ⟨u, hu, ra, rn, rc, rfl, hI⟩ := hat i (by omega)
  refine ⟨[.slice ra rn rc], xss[i], rfl, List.getElem?_eq_getElem (by omega), ⟨ra, rn, rc, rfl, hI⟩, fun j hj => ?_⟩
  obtain rfl : j = 0 := by omega
  exact ⟨by simpa using (hc i _ hu).2, fun h => (nomatch h)⟩
/-- rows that lie whole in blocks of their own, of one length and pairwise different, lie apart -/
theorem rows_apart {C : Nat → Nat → Prop} {lo q : Nat} {w : World} {xss : List (List Int)} {us : List Value} (hT : ∀ b, Tag C b → lo ≤ b) (hC : ∀ b i, C b i → b < w.heap.size) (hf : ∀ b i, C b i → lo ≤ b → w.frozen? ⟨b, i, none⟩ = false)
    (hq : SameL q xss) (hd : ∀ i j, i < xss.length → j < xss.length → i ≠ j → rx xss i ≠ rx xss j) (h : CX C w (rowsW xss) us) : ∃ a n c, us = [.slice a n c] ∧ RowsS lo w.heap.size w a n c xss := by
  obtain ⟨a, n, c, vs, rfl, h2, h3, ⟨h4, h5, h6, h7, h8, h9⟩, h10⟩ := h
  simp only [List.length_map] at h2
  obtain ⟨g1, g2⟩ := CXk.singles.1 h3
  simp only [List.length_map] at g1
  refine ⟨a, n, c, rfl, h2, h5, h6, fun hn => ?_, h7⟩
  obtain ⟨b, off, ha, hc⟩ := h9 hn
  obtain ⟨b', ha', htag⟩ := h10 hn
  rw [ha] at ha'
  simp only [Option.some.injEq, Addr.mk.injEq, and_true] at ha'
  obtain ⟨rfl, rfl⟩ := ha'
  have hlo := hT b htag
  -- row i
  have hrow : ∀ i, i < xss.length → ∃ s t : Nat, lo ≤ s ∧ t ≤ w.heap.size ∧ HeadI w s t ∧ (s < t ∨ s = t ∧ t = lo) ∧ ∃ ra rn rc, vs[i]? = some (.slice ra rn rc) ∧ IntsA true s t w ra rn rc (rx xss i) ∧ (s < t → ra = some ⟨s, 0, none⟩) ∧ (s = t → (rx xss i).length = 0) := fun i hi => by
    obtain ⟨u, hu, ra, rn, rc, rs, e1, e2, e3, ⟨f1, f2, f3, f4, f5, f6⟩, f7⟩ := g2 i (whD (rx xss i)) (by rw [List.getElem?_map, List.getElem?_eq_getElem hi, rx_lt hi]; rfl)
    simp only [List.cons.injEq, and_true] at e1
    subst e1
    simp only [List.length_map] at e2
    obtain ⟨k1, k2⟩ := CXk.singles.1 e3
    simp only [List.length_map] at k1
    have hx : ∀ j, j < rn → rs[j]? = some (.int .i64 (ix (rx xss i) j)) ∧ I64 (ix (rx xss i) j) := fun j hj => by
      obtain ⟨u, hu, e, hI⟩ := k2 j (.int (ix (rx xss i) j)) (by rw [List.getElem?_map, ix_lt (by omega)]; simp [show j < (rx xss i).length by omega])
      simp only [List.cons.injEq, and_true] at e
      subst e
      exact ⟨hu, hI⟩
    have hI64 : ∀ x ∈ rx xss i, I64 x := fun x hx' => by
      obtain ⟨j, hj, rfl⟩ := List.mem_iff_getElem.1 hx'
      have := (hx j (by omega)).2
      rwa [ix_lt hj] at this
    by_cases hr : 0 < rn
    · obtain ⟨rb, roff, hra, hrc⟩ := f6 hr
      obtain ⟨rb', hra', hrt⟩ := f7 hr
      rw [hra] at hra'
      simp only [Option.some.injEq, Addr.mk.injEq, and_true] at hra'
      obtain ⟨rfl, rfl⟩ := hra'
      have c0 := hrc 0 _ (hx 0 hr).1
      have hb1 := hC rb _ c0.1
      have hb2 := hT rb hrt
      refine ⟨rb, rb + 1, hb2, by omega, fun _ => ⟨rfl, _, c0.2⟩, .inl (by omega), ra, rn, rc, hu, ⟨e2, f2, f3, hI64, fun _ => ⟨rb, 0, hra, Nat.le_refl _, by omega, fun j hj => ?_⟩, f4⟩, fun _ => hra, fun h => by omega⟩
      have := hrc j _ (hx j hj).1
      exact ⟨this.2, fun _ => hf rb _ this.1 hb2⟩
    · refine ⟨lo, lo, Nat.le_refl _, by have := hC b _ (hc i _ hu).1; omega, fun h => absurd h (Nat.lt_irrefl _), .inr ⟨rfl, rfl⟩, ra, rn, rc, hu, ⟨e2, f2, f3, hI64, fun h => absurd h hr, f4⟩, fun h => absurd h (Nat.lt_irrefl _), fun _ => by omega⟩
  have hex : ∃ s t : Nat → Nat, ∀ i, i < xss.length → lo ≤ s i ∧ t i ≤ w.heap.size ∧ HeadI w (s i) (t i) ∧ (s i < t i ∨ s i = t i ∧ t i = lo) ∧ ∃ ra rn rc, vs[i]? = some (.slice ra rn rc) ∧ IntsA true (s i) (t i) w ra rn rc (rx xss i) ∧ (s i < t i → ra = some ⟨s i, 0, none⟩) ∧ (s i = t i → (rx xss i).length = 0) := by
    refine ⟨fun i => if h : i < xss.length then Classical.choose (hrow i h) else 0, fun i => if h : i < xss.length then Classical.choose (Classical.choose_spec (hrow i h)) else 0, fun i hi => ?_⟩
    simp only [dif_pos hi]
    exact Classical.choose_spec (Classical.choose_spec (hrow i hi))
  obtain ⟨s, t, hst⟩ := hex
  refine ⟨b, 0, ha, hlo, hC b _ (hc 0 _ (List.getElem?_eq_getElem (by omega : 0 < vs.length))).1, vs, ⟨by omega, s, t, fun i hi => ?_, fun i j hi hj hij => ?_⟩, fun i u hu => ⟨(hc i u hu).2, hf b _ (hc i u hu).1 hlo⟩⟩
  · obtain ⟨q1, q2, q3, q4, ra, rn, rc, q5, q6, _⟩ := hst i hi
    exact ⟨q1, q2, q3, ra, rn, rc, rx xss i, by rw [List.getElem?_eq_getElem hi, rx_lt hi], q5, q6⟩
  · obtain ⟨q1, q2, q3, q4, ra, rn, rc, q5, q6, q7, q8⟩ := hst i hi
    obtain ⟨p1, p2, p3, p4, ra', rn', rc', p5, p6, p7, p8⟩ := hst j hj
    rcases q4 with q4 | ⟨q4, q4'⟩
    · rcases p4 with p4 | ⟨p4, p4'⟩
      · have e1 := (q3 q4).1
        have e2 := (p3 p4).1
        by_cases e : s i = s j
        · exfalso
          apply hd i j hi hj hij
          have l1 : (rx xss i).length = q := hq _ (by rw [rx_lt hi]; exact List.getElem_mem _)
          have l2 : (rx xss j).length = q := hq _ (by rw [rx_lt hj]; exact List.getElem_mem _)
          obtain ⟨r1, _, _, _, r5, _⟩ := q6
          obtain ⟨r1', _, _, _, r5', _⟩ := p6
          by_cases h0 : 0 < rn
          · obtain ⟨bb, oo, w1, _, _, w2⟩ := r5 h0
            obtain ⟨bb', oo', w1', _, _, w2'⟩ := r5' (by omega)
            rw [q7 q4] at w1
            rw [p7 p4, ← e] at w1'
            simp only [Option.some.injEq, Addr.mk.injEq, and_true] at w1 w1'
            obtain ⟨rfl, rfl⟩ := w1
            obtain ⟨rfl, rfl⟩ := w1'
            apply List.ext_getElem (by omega)
            intro m hm hm'
            have t1 := (w2 m (by omega)).1
            have t2 := (w2' m (by omega)).1
            rw [t1] at t2
            simp only [Option.some.injEq, Value.int.injEq, true_and] at t2
            rw [ix_lt hm, ix_lt hm'] at t2
            exact t2
          · rw [List.eq_nil_of_length_eq_zero (by omega : (rx xss i).length = 0), List.eq_nil_of_length_eq_zero (by omega : (rx xss j).length = 0)]
        · omega
      · right; omega
    · left; omega
/-- what a contract on abstract values says of the world -/
def Out (C0 : Nat → Nat → Prop) (X : AV) (w : World) (e : Ending) (w' : World) : Prop :=
  ∃ v G', e = .returned v ∧ CV G' w' X v ∧ Below w.heap.size w w' ∧ (∀ b i, G'.C b i → b < w'.heap.size) ∧ (∀ b i, G'.C b i → b < w.heap.size → C0 b i) ∧ (∀ b i, G'.C b i → w.heap.size ≤ b → w'.frozen? ⟨b, i, none⟩ = false)
theorem afn_calls {f : FuncId} {args : List AV} {X : AV} (h : AFn f args [] (fun r os => r = X ∧ os = [])) {w : World} {C0 : Nat → Nat → Prop} (hC0 : ∀ b i, C0 b i → b < w.heap.size) {vs : List Value} (hv : ∀ G : Gh, G.C = C0 → CVs G w args vs) : Calls Try.prog f vs.toArray w (Out C0 X w) := by
  refine (h.2 w ⟨C0, fun _ => .slice none 0 0, fun _ => 0, fun _ => 0, fun _ => 0⟩ vs (hv _ rfl) hC0 (fun i l hl => by simp at hl) (fun i j hi => absurd hi (Nat.not_lt_zero _))).mono ?_
  rintro e w' ⟨v, r, os, G', rfl, hp⟩
  obtain ⟨rfl, rfl⟩ := hp.post
  exact ⟨v, G', rfl, hp.res, ⟨hp.fr.os, hp.fr.tape, hp.fr.output, hp.fr.size, fun k hk => hp.fr.block k hk (fun ⟨i, hi, _⟩ => absurd hi (Nat.not_lt_zero _))⟩, hp.cs, hp.lc, hp.uf⟩
def GvRowsR (lo : Nat) (w : World) (rows : List (List Int)) (e : Ending) (w' : World) : Prop := ∃ a n c, e = .returned (.slice a n c) ∧ RowsA false lo w'.heap.size w' a n c rows ∧ Below w.heap.size w w'
def GvRowsS (w : World) (rows : List (List Int)) (e : Ending) (w' : World) : Prop := ∃ a n c, e = .returned (.slice a n c) ∧ RowsS w.heap.size w'.heap.size w' a n c rows ∧ Below w.heap.size w w'
theorem rows_read {f : FuncId} {args : List AV} {rows : List (List Int)} {lo : Nat} {w : World} {vs : List Value} (hA : AFn f args [] (fun r os => r = .d (rowsD rows) ∧ os = [])) (hv : ∀ G : Gh, G.C = cellsC lo w → CVs G w args vs) (hlw : lo ≤ w.heap.size) :
    Calls Try.prog f vs.toArray w (GvRowsR lo w rows) := by
  refine (afn_calls hA (C0 := cellsC lo w) (fun b i h => h.2.1) hv).mono ?_
  rintro e w' ⟨v, G', rfl, h1, hb, hcs, hlc, huf⟩
  have hC : ∀ b i, G'.C b i → lo ≤ b ∧ b < w'.heap.size := fun b i hc => by
    refine ⟨?_, hcs b i hc⟩
    by_cases h : b < w.heap.size
    · exact (hlc b i hc h).1
    · omega
  obtain ⟨a, n, c, e1, hR⟩ := cx_rowsC hC (cvSl.1 h1)
  simp only [List.cons.injEq, and_true] at e1
  subst e1
  exact ⟨a, n, c, rfl, hR, hb⟩
theorem rows_own {f : FuncId} {args : List AV} {rows : List (List Int)} {w : World} {vs : List Value} {q : Nat} (hA : AFn f args [] (fun r os => r = .d (rowsW rows) ∧ os = [])) (hq : SameL q rows) (hd : ∀ i j, i < rows.length → j < rows.length → i ≠ j → rx rows i ≠ rx rows j) (hv : ∀ G : Gh, G.C = cellsC 0 w → CVs G w args vs) :
    Calls Try.prog f vs.toArray w (GvRowsS w rows) := by
  refine (afn_calls hA (C0 := cellsC 0 w) (fun b i h => h.2.1) hv).mono ?_
  rintro e w' ⟨v, G', rfl, h1, hb, hcs, hlc, huf⟩
  have hT : ∀ b, Tag G'.C b → w.heap.size ≤ b := fun b ⟨N, ht⟩ => by
    by_cases h : b < w.heap.size
    · exact absurd ⟨N, fun i hi => hlc b i (ht i hi) h⟩ (no_tag (lo := 0) (w := w) (b := b))
    · omega
  obtain ⟨a, n, c, e1, hR⟩ := rows_apart hT hcs huf hq hd (cvWh.1 h1)
  simp only [List.cons.injEq, and_true] at e1
  subst e1
  exact ⟨a, n, c, rfl, hR, hb⟩
end Go.Proofs.Ytdimcbollnggjaa
