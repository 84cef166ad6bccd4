/- Components: the plain law. What a round of growing adds; how many components there are. -/
import Derived.Test.YtalfldflnacpeaaG3
import Derived.Test.YtalfldflnacpeaaB5
namespace Go.Proofs.Ytalfldflnacpeaa
set_option linter.unusedSimpArgs false
set_option linter.unusedVariables false
open Go.RowKit
/-- asc: strictly ascending -/
abbrev Asc (l : List Int) : Prop := l.Pairwise (· < ·)
inductive Reach (A : Int → Int → Prop) (v : Int) : Int → Prop
  | refl : Reach A v v
  | step {x y : Int} : Reach A v x → A x y → Reach A v y
structure SymA (nv : Nat) (A : Int → Int → Prop) : Prop where
  symm : ∀ {x y}, A x y → A y x
  rng : ∀ {x y}, A x y → 0 ≤ y ∧ y < nv
section
variable {nv : Nat} {A : Int → Int → Prop}
theorem Reach.trans {x y z : Int} (h : Reach A x y) (h' : Reach A y z) : Reach A x z := by
  induction h' with
  | refl => exact h
  | step _ h2 ih => exact ih.step h2
theorem Reach.one {x y : Int} (h : A x y) : Reach A x y := Reach.refl.step h
theorem Reach.symm (hS : SymA nv A) {x y : Int} (h : Reach A x y) : Reach A y x := by
  induction h with
  | refl => exact .refl
  | step _ h2 ih => exact (Reach.one (hS.symm h2)).trans ih
theorem Reach.rng (hS : SymA nv A) {x y : Int} (h : Reach A x y) (hx : 0 ≤ x ∧ x < nv) : 0 ≤ y ∧ y < nv := by
  cases h with
  | refl => exact hx
  | step _ h2 => exact hS.rng h2
def Clo (A : Int → Int → Prop) (l : List Int) : Prop := ∀ x ∈ l, ∀ y, A x y → y ∈ l
theorem Clo.reach {l : List Int} (h : Clo A l) {x y : Int} (hx : x ∈ l) (hr : Reach A x y) : y ∈ l := by
  induction hr with
  | refl => exact hx
  | step _ h2 ih => exact h _ ih _ h2
theorem asc_len : ∀ (l : List Int) (a : Nat), Asc l → (∀ x ∈ l, (a : Int) ≤ x ∧ x < nv) → a ≤ nv → a + l.length ≤ nv
  | [], a, _, _, h => h
  | x :: l, a, hp, hb, h => by
    obtain ⟨h1, h2⟩ := List.pairwise_cons.1 hp
    obtain ⟨h3, h4⟩ := hb x (List.mem_cons_self ..)
    obtain ⟨b, rfl⟩ := Int.eq_ofNat_of_zero_le (show 0 ≤ x by omega)
    have := asc_len l (b + 1) h2 (fun y hy => ⟨by have := h1 y hy; omega, (hb y (List.mem_cons_of_mem _ hy)).2⟩) (by omega)
    simp only [List.length_cons]; omega
theorem nodup_len : ∀ (l m : List Int), l.Nodup → (∀ x ∈ l, x ∈ m) → l.length ≤ m.length
  | [], m, _, _ => Nat.zero_le _
  | x :: l, m, hn, hs => by
    obtain ⟨h1, h2⟩ := List.nodup_cons.1 hn
    have hx := hs x (List.mem_cons_self ..)
    have h3 := nodup_len l (m.erase x) h2 (fun y hy => (List.mem_erase_of_ne (fun e => h1 (by rw [← e]; exact hy))).2 (hs y (List.mem_cons_of_mem _ hy)))
    rw [List.length_erase_of_mem hx] at h3
    have := List.length_pos_of_mem hx
    simp only [List.length_cons]; omega
theorem asc_nodup {l : List Int} (h : Asc l) : l.Nodup := h.imp (fun hab => by omega)
/-- what k rounds of growing have made of v -/
structure GP (nv : Nat) (A : Int → Int → Prop) (v : Int) (k : Nat) (P : List Int) : Prop where
  asc : Asc P
  mem : v ∈ P
  reach : ∀ x ∈ P, Reach A v x
  rng : ∀ x ∈ P, 0 ≤ x ∧ x < nv
  grow : Clo A P ∨ k + 1 ≤ P.length
theorem GP.zero {v : Int} (h : 0 ≤ v ∧ v < nv) : GP nv A v 0 [v] :=
  ⟨List.pairwise_singleton _ _, List.mem_singleton.2 rfl, fun x hx => by rw [List.mem_singleton.1 hx]; exact .refl, fun x hx => by rw [List.mem_singleton.1 hx]; exact h, .inr (Nat.le_refl _)⟩
theorem GP.next (hS : SymA nv A) {v : Int} {k : Nat} {P P' : List Int} (h : GP nv A v k P) (ha : Asc P') (hm : ∀ y, y ∈ P' ↔ y ∈ P ∨ ∃ x ∈ P, A x y) : GP nv A v (k + 1) P' := by
  refine ⟨ha, (hm _).2 (.inl h.mem), fun y hy => ?_, fun y hy => ?_, ?_⟩
  · rcases (hm y).1 hy with h1 | ⟨x, h1, h2⟩
    · exact h.reach y h1
    · exact (h.reach x h1).step h2
  · rcases (hm y).1 hy with h1 | ⟨x, h1, h2⟩
    · exact h.rng y h1
    · exact hS.rng h2
  · by_cases hc : Clo A P
    · refine .inl fun x hx y hxy => ?_
      have hxP : x ∈ P := by
        rcases (hm x).1 hx with h1 | ⟨z, h1, h2⟩
        · exact h1
        · exact hc z h1 x h2
      exact (hm y).2 (.inl (hc x hxP y hxy))
    · have hk : k + 1 ≤ P.length := h.grow.resolve_left hc
      have : ∃ x, x ∈ P ∧ ∃ y, A x y ∧ y ∉ P := by
        refine Classical.byContradiction fun hn => hc fun x hx y hxy => Classical.byContradiction fun hy => hn ⟨x, hx, y, hxy, hy⟩
      obtain ⟨x, hx, y, hxy, hy⟩ := this
      have := nodup_len (y :: P) P' (List.nodup_cons.2 ⟨hy, asc_nodup h.asc⟩) (fun z hz => by
        rcases List.mem_cons.1 hz with rfl | h1
        · exact (hm _).2 (.inr ⟨x, hx, hxy⟩)
        · exact (hm _).2 (.inl h1))
      simp only [List.length_cons] at this
      exact .inr (by omega)
theorem GP.le {v : Int} {k : Nat} {P : List Int} (h : GP nv A v k P) : P.length ≤ nv := by
  have := asc_len P 0 h.asc (fun x hx => by have := h.rng x hx; omega) (Nat.zero_le _)
  omega
theorem GP.clo {v : Int} {P : List Int} (h : GP nv A v nv P) : Clo A P := h.grow.resolve_right (by have := h.le; omega)
def IsMin (A : Int → Int → Prop) (v : Int) : Prop := ∀ x, Reach A v x → v ≤ x
open Classical in
noncomputable def cntMin (A : Int → Int → Prop) : Nat → Nat
  | 0 => 0
  | k + 1 => if IsMin A (k : Int) then cntMin A k + 1 else cntMin A k
theorem cnt_yes {k : Nat} (h : IsMin A (k : Int)) : cntMin A (k + 1) = cntMin A k + 1 := if_pos h
theorem cnt_no {k : Nat} (h : ¬ IsMin A (k : Int)) : cntMin A (k + 1) = cntMin A k := if_neg h
def tot : List (List Int) → Nat
  | [] => 0
  | p :: l => p.length + tot l
theorem tot_app (a : List (List Int)) (p : List Int) : tot (a ++ [p]) = tot a + p.length := by
  induction a with
  | nil => simp [tot]
  | cons x l ih => simp only [List.cons_append, tot, ih]; omega
/-- what the program has when it looks at v -/
structure DN (nv : Nat) (A : Int → Int → Prop) (v : Nat) (dn : List Int) (ps : List (List Int)) : Prop where
  nd : dn.Nodup
  clo : Clo A dn
  all : ∀ w : Nat, w < v → (w : Int) ∈ dn
  rng : ∀ x ∈ dn, 0 ≤ x ∧ x < nv
  src : ∀ x ∈ dn, ∃ w : Nat, w < v ∧ Reach A (w : Int) x
  sum : tot ps = dn.length
  each : ∀ p ∈ ps, Clo A p ∧ p.length ≤ nv ∧ ∀ x ∈ p, 0 ≤ x ∧ x < nv
  cnt : ps.length = cntMin A v
  le : ps.length ≤ v
theorem DN.zero : DN nv A 0 [] [] := ⟨List.nodup_nil, fun x hx => (nomatch hx), fun w h => absurd h (Nat.not_lt_zero _), fun x hx => (nomatch hx), fun x hx => (nomatch hx), rfl, fun p hp => (nomatch hp), rfl, Nat.le_refl _⟩
theorem DN.skip (hS : SymA nv A) {v : Nat} {dn : List Int} {ps : List (List Int)} (h : DN nv A v dn ps) (hv : (v : Int) ∈ dn) : DN nv A (v + 1) dn ps := by
  obtain ⟨w, h1, h2⟩ := h.src _ hv
  have hn : ¬ IsMin A (v : Int) := fun hm => by have := hm _ (h2.symm hS); omega
  refine ⟨h.nd, h.clo, fun w hw => ?_, h.rng, fun x hx => ?_, h.sum, h.each, by rw [h.cnt, cnt_no hn], by have := h.le; omega⟩
  · by_cases e : w = v
    · subst e; exact hv
    · exact h.all w (by omega)
  · obtain ⟨w, g1, g2⟩ := h.src x hx
    exact ⟨w, by omega, g2⟩
theorem DN.add (hS : SymA nv A) {v : Nat} {dn : List Int} {ps : List (List Int)} (h : DN nv A v dn ps) (hv : (v : Int) ∉ dn) {P : List Int} (hP : GP nv A (v : Int) nv P) : DN nv A (v + 1) (dn ++ P) (ps ++ [P]) := by
  have hc := hP.clo
  have hdis : ∀ x ∈ P, x ∉ dn := fun x hx hd => hv (h.clo.reach hd ((hP.reach x hx).symm hS))
  have hmin : IsMin A (v : Int) := fun x hr => by
    have hx := hc.reach hP.mem hr
    have hb := hP.rng x hx
    refine Classical.byContradiction fun hlt => ?_
    obtain ⟨w, rfl⟩ := Int.eq_ofNat_of_zero_le hb.1
    exact hdis _ hx (h.all w (by omega))
  refine ⟨?_, fun x hx y hxy => ?_, fun w hw => ?_, fun x hx => ?_, fun x hx => ?_, ?_, fun p hp => ?_, ?_, ?_⟩
  · rw [List.nodup_append]
    exact ⟨h.nd, asc_nodup hP.asc, fun a ha b hb e => hdis b hb (e ▸ ha)⟩
  · rcases List.mem_append.1 hx with h1 | h1
    · exact List.mem_append_left _ (h.clo x h1 y hxy)
    · exact List.mem_append_right _ (hc x h1 y hxy)
  · by_cases e : w = v
    · subst e; exact List.mem_append_right _ hP.mem
    · exact List.mem_append_left _ (h.all w (by omega))
  · rcases List.mem_append.1 hx with h1 | h1
    · exact h.rng x h1
    · exact hP.rng x h1
  · rcases List.mem_append.1 hx with h1 | h1
    · obtain ⟨w, g1, g2⟩ := h.src x h1
      exact ⟨w, by omega, g2⟩
    · exact ⟨v, by omega, hP.reach x h1⟩
  · rw [tot_app, h.sum, List.length_append]
  · rcases List.mem_append.1 hp with h1 | h1
    · exact h.each p h1
    · rw [List.mem_singleton.1 h1]; exact ⟨hc, hP.le, hP.rng⟩
  · rw [List.length_append, h.cnt, cnt_yes hmin]; rfl
  · rw [List.length_append]; have := h.le; simp; omega
theorem DN.lenD {v : Nat} {dn : List Int} {ps : List (List Int)} (h : DN nv A v dn ps) : dn.length ≤ nv := by
  have h1 := nodup_len dn ((List.range nv).map Int.ofNat) h.nd (fun x hx => by
    obtain ⟨h1, h2⟩ := h.rng x hx
    obtain ⟨w, rfl⟩ := Int.eq_ofNat_of_zero_le h1
    exact List.mem_map.2 ⟨w, List.mem_range.2 (by omega), rfl⟩)
  simpa using h1
theorem DN.full {dn : List Int} {ps : List (List Int)} (h : DN nv A nv dn ps) : tot ps = nv := by
  rw [h.sum]
  have h1 := nodup_len ((List.range nv).map Int.ofNat) dn (by
    rw [List.nodup_iff_pairwise_ne, List.pairwise_map]
    exact List.nodup_range.imp (fun {a b} hab e => hab (by have e' : ((a : Nat) : Int) = (b : Nat) := e; omega))) (fun x hx => by
    obtain ⟨w, h1, rfl⟩ := List.mem_map.1 hx
    exact h.all w (List.mem_range.1 h1))
  have := h.lenD
  simp at h1; omega
/- the reference: marks -/
structure MK (nv : Nat) (A : Int → Int → Prop) (M : List Int) : Prop where
  len : M.length = nv
  reach : ∀ v : Nat, v < nv → Reach A (v : Int) (ix M v)
def nx (P : List Int) (A : Int → Int → Prop) (x : Int) : Prop := ∃ u ∈ P, A u x
def Good (nv : Nat) (A : Int → Int → Prop) (k v : Nat) (M : List Int) : Prop := ∀ m : Int, 0 ≤ m → m < nv → IsMin A m → ∃ P, GP nv A m k P ∧ (∀ x : Nat, (x : Int) ∈ P → ix M x = m) ∧ ∀ x : Nat, x < v → nx P A x → ix M x = m
def GoodI (nv : Nat) (A : Int → Int → Prop) (k v : Nat) (near : List Int) (M : List Int) : Prop := ∀ m : Int, 0 ≤ m → m < nv → IsMin A m → ∃ P, GP nv A m k P ∧ (∀ x : Nat, (x : Int) ∈ P → ix M x = m) ∧ (∀ x : Nat, x < v → nx P A x → ix M x = m) ∧ ((∃ u ∈ near, u ∈ P) → ix M v = m)
theorem MK.id (nv : Nat) : MK nv A (idTo nv) := ⟨by simp [idTo], fun v hv => by rw [show ix (idTo nv) v = (v : Int) by simp [ix, idTo, List.getD, hv]]; exact .refl⟩
theorem Good.zero (nv : Nat) : Good nv A 0 0 (idTo nv) := fun m h0 h1 _ => ⟨[m], .zero ⟨h0, h1⟩, fun x hx => by
  rw [List.mem_singleton] at hx
  rw [← hx]
  have : x < nv := by omega
  simp [ix, idTo, List.getD, this], fun x h => absurd h (Nat.not_lt_zero _)⟩
theorem GoodI.nil {k v : Nat} {M : List Int} (h : Good nv A k v M) : GoodI nv A k v [] M := fun m h0 h1 h2 => by
  obtain ⟨P, g1, g2, g3⟩ := h m h0 h1 h2
  exact ⟨P, g1, g2, g3, fun ⟨u, hu, _⟩ => by cases hu⟩
theorem ix_set (M : List Int) (v x : Nat) (y : Int) (hv : v < M.length) : ix (M.set v y) x = if x = v then y else ix M x := by
  unfold ix
  simp only [List.getD, List.getElem?_set]
  by_cases e : v = x
  · subst e; simp [hv]
  · rw [if_neg e, if_neg (fun h => e h.symm)]
theorem MK.set (hS : SymA nv A) {M : List Int} {v u : Nat} (h : MK nv A M) (hv : v < nv) (hu : u < nv) (hA : A (v : Int) (u : Int)) : MK nv A (M.set v (min (ix M v) (ix M u))) := by
  refine ⟨by rw [List.length_set]; exact h.len, fun x hx => ?_⟩
  rw [ix_set _ _ _ _ (by rw [h.len]; exact hv)]
  split
  · rename_i e
    subst e
    rcases Int.le_total (ix M x) (ix M u) with h1 | h1
    · rw [Int.min_eq_left h1]; exact h.reach x hv
    · rw [Int.min_eq_right h1]; exact (Reach.one hA).trans (h.reach u hu)
  · exact h.reach x hx
theorem GoodI.set (hS : SymA nv A) {k : Nat} {M near : List Int} {v u : Nat} (hM : MK nv A M) (h : GoodI nv A k v near M) (hv : v < nv) (hu : u < nv) (hA : A (v : Int) (u : Int)) : GoodI nv A k v (near ++ [(u : Int)]) (M.set v (min (ix M v) (ix M u))) := by
  intro m h0 h1 h2
  obtain ⟨P, g1, g2, g3, g4⟩ := h m h0 h1 h2
  have hl : v < M.length := by rw [hM.len]; exact hv
  -- where v belongs to m, both marks are at least m
  have hge : Reach A m v → m ≤ ix M v ∧ m ≤ ix M u := fun hr => ⟨h2 _ (hr.trans (hM.reach v hv)), h2 _ ((hr.trans (.one hA)).trans (hM.reach u hu))⟩
  have keep : Reach A m v → ix M v = m → min (ix M v) (ix M u) = m := fun hr e => by have := hge hr; omega
  refine ⟨P, g1, fun x hx => ?_, fun x hx hn => ?_, fun ⟨w, hw, hwP⟩ => ?_⟩
  · rw [ix_set _ _ _ _ hl]
    split
    · rename_i e; subst e; exact keep (g1.reach _ hx) (g2 x hx)
    · exact g2 x hx
  · rw [ix_set _ _ _ _ hl, if_neg (by omega)]; exact g3 x hx hn
  · rw [ix_set _ _ _ _ hl, if_pos rfl]
    rcases List.mem_append.1 hw with h3 | h3
    · have hvm := g4 ⟨w, h3, hwP⟩
      have hr : Reach A m v := by have := (hM.reach v hv).symm hS; rw [hvm] at this; exact this
      exact keep hr hvm
    · rw [List.mem_singleton.1 h3] at hwP
      have hum := g2 u hwP
      have hr : Reach A m v := (g1.reach _ hwP).step (hS.symm hA)
      have := hge hr; omega
theorem Good.step {k v : Nat} {M near : List Int} (h : GoodI nv A k v near M) (hn : ∀ x, x ∈ near ↔ A (v : Int) x) (hS : SymA nv A) : Good nv A k (v + 1) M := by
  intro m h0 h1 h2
  obtain ⟨P, g1, g2, g3, g4⟩ := h m h0 h1 h2
  refine ⟨P, g1, g2, fun x hx hnx => ?_⟩
  by_cases e : x = v
  · subst e
    obtain ⟨u, hu, hA⟩ := hnx
    exact g4 ⟨u, (hn u).2 (hS.symm hA), hu⟩
  · exact g3 x (by omega) hnx
open Classical in
theorem Good.round {k : Nat} {M : List Int} (hS : SymA nv A) (h : Good nv A k nv M) : Good nv A (k + 1) 0 M := by
  intro m h0 h1 h2
  obtain ⟨P, g1, g2, g3⟩ := h m h0 h1 h2
  have hasc : Asc ((List.range nv).map Int.ofNat) := by
    unfold Asc
    rw [List.pairwise_map]
    exact List.pairwise_lt_range.imp (fun hab => by simpa using hab)
  refine ⟨((List.range nv).map Int.ofNat).filter (fun y => decide (y ∈ P ∨ nx P A y)), g1.next hS (hasc.filter _) (fun y => ?_), fun x hx => ?_, fun x h => absurd h (Nat.not_lt_zero _)⟩
  · rw [List.mem_filter, decide_eq_true_eq]
    constructor
    · exact fun h => h.2
    · intro h
      refine ⟨?_, h⟩
      have hb : 0 ≤ y ∧ y < nv := by
        rcases h with h | ⟨u, hu, hA⟩
        · exact g1.rng y h
        · exact hS.rng hA
      obtain ⟨w, rfl⟩ := Int.eq_ofNat_of_zero_le hb.1
      exact List.mem_map.2 ⟨w, List.mem_range.2 (by omega), rfl⟩
  · rw [List.mem_filter, decide_eq_true_eq] at hx
    rcases hx.2 with h3 | h3
    · exact g2 x h3
    · refine g3 x ?_ h3
      obtain ⟨w, h4, h5⟩ := List.mem_map.1 hx.1
      have := List.mem_range.1 h4
      have : w = x := by have h6 : ((w : Nat) : Int) = (x : Nat) := h5; omega
      omega
theorem min_of (hS : SymA nv A) : ∀ (n w : Nat), w ≤ n → w < nv → ∃ m : Nat, m < nv ∧ IsMin A (m : Int) ∧ Reach A (w : Int) (m : Int)
  | 0, w, h, hw => ⟨w, hw, fun x hr => by have := hr.rng hS ⟨by omega, by omega⟩; omega, .refl⟩
  | n + 1, w, h, hw => by
    by_cases hm : IsMin A (w : Int)
    · exact ⟨w, hw, hm, .refl⟩
    · have : ∃ x, Reach A (w : Int) x ∧ x < w := Classical.byContradiction fun hn => hm fun x hr => Classical.byContradiction fun hlt => hn ⟨x, hr, by omega⟩
      obtain ⟨x, h1, h2⟩ := this
      have hb := h1.rng hS ⟨by omega, by omega⟩
      obtain ⟨y, rfl⟩ := Int.eq_ofNat_of_zero_le hb.1
      obtain ⟨m, g1, g2, g3⟩ := min_of hS n y (by omega) (by omega)
      exact ⟨m, g1, g2, h1.trans g3⟩
theorem mark_min (hS : SymA nv A) {M : List Int} (hM : MK nv A M) (h : Good nv A nv 0 M) {w : Nat} (hw : w < nv) : IsMin A (ix M w) := by
  obtain ⟨m, h1, h2, h3⟩ := min_of hS w w (Nat.le_refl _) hw
  obtain ⟨P, g1, g2, _⟩ := h (m : Int) (by omega) (by omega) h2
  have hwP := g1.clo.reach g1.mem (h3.symm hS)
  rw [g2 w hwP]; exact h2
theorem mark_self {M : List Int} (h : Good nv A nv 0 M) {v : Nat} (hv : v < nv) (hm : IsMin A (v : Int)) : ix M v = v := by
  obtain ⟨P, g1, g2, _⟩ := h (v : Int) (by omega) (by omega) hm
  exact g2 v g1.mem
/-- the places up to k that bear the mark v -/
def bear (M : List Int) (v : Int) : Nat → List Int
  | 0 => []
  | k + 1 => if ix M k = v then bear M v k ++ [(k : Int)] else bear M v k
theorem bear_len (M : List Int) (v : Int) : ∀ k, (bear M v k).length ≤ k
  | 0 => Nat.le_refl 0
  | k + 1 => by
    have := bear_len M v k
    simp only [bear]; split
    · simp; omega
    · omega
theorem bear_nil {M : List Int} {v : Int} : ∀ {k : Nat}, bear M v k = [] ↔ ∀ w, w < k → ix M w ≠ v
  | 0 => ⟨fun _ w h => absurd h (Nat.not_lt_zero _), fun _ => rfl⟩
  | k + 1 => by
    simp only [bear]
    constructor
    · intro h w hw e
      split at h
      · simp at h
      · rename_i hk
        by_cases e2 : w = k
        · subst e2; exact hk e
        · exact bear_nil.1 h w (by omega) e
    · intro h
      rw [if_neg (h k (by omega))]
      exact bear_nil.2 fun w hw => h w (by omega)
theorem bear_min (hS : SymA nv A) {M : List Int} (hM : MK nv A M) (h : Good nv A nv 0 M) {v : Nat} (hv : v < nv) : bear M (v : Int) nv ≠ [] ↔ IsMin A (v : Int) := by
  constructor
  · intro hb
    have : ∃ w, w < nv ∧ ix M w = v := Classical.byContradiction fun hn => hb (bear_nil.2 fun w hw e => hn ⟨w, hw, e⟩)
    obtain ⟨w, hw, e⟩ := this
    rw [← e]; exact mark_min hS hM h hw
  · intro hm hb
    exact bear_nil.1 hb v hv (mark_self h hv hm)
end
theorem adj_sym {nv : Int} {xs : List AtomD} {us : List Int} (hq : qOK nv xs us = true) : SymA nv.toNat (Adj xs) := by
  obtain ⟨⟨⟨h1, h5⟩, _, hx4⟩, _, hat, _⟩ := qOK_out hq
  refine ⟨fun ⟨h1, i, h2, h3, h4⟩ => ⟨fun e => h1 e.symm, i, h2, h4, h3⟩, ?_⟩
  rintro x y ⟨_, i, hi, _, ho⟩
  obtain ⟨j, hj, rfl⟩ := mem_ix.1 (occ_mem.1 ho)
  have := (hat i hi).2.2 j hj
  omega
end Go.Proofs.Ytalfldflnacpeaa
