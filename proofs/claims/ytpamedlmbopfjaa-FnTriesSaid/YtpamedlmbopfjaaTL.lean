/- The plain law of the prefixes of a trie. -/
import Derived.Test.YtpamedlmbopfjaaQ12
import Derived.Test.YtpamedlmbopfjaaU1
namespace Go.Proofs.Ytpamedlmbopfjaa
set_option linter.unusedSimpArgs false
set_option linter.unusedVariables false
open Go.RowKit
/-- how many of the first n are v -/
def cnt (f : Nat → Int) (v : Int) : Nat → Nat
  | 0 => 0
  | n + 1 => cnt f v n + (if f n = v then 1 else 0)
def sumL (g : Int → Nat) : List Int → Nat
  | [] => 0
  | x :: l => g x + sumL g l
theorem sumL_snoc (g : Int → Nat) (x : Int) : ∀ l, sumL g (l ++ [x]) = sumL g l + g x
  | [] => by simp [sumL]
  | y :: l => by simp [sumL, sumL_snoc g x l]; omega
theorem sumL_congr {g g' : Int → Nat} : ∀ {l : List Int}, (∀ x ∈ l, g x = g' x) → sumL g l = sumL g' l
  | [], _ => rfl
  | x :: l, h => by simp [sumL, h x (by simp), sumL_congr (l := l) (fun y hy => h y (by simp [hy]))]
theorem cnt_none {f : Nat → Int} {v : Int} : ∀ {n}, (∀ j, j < n → f j ≠ v) → cnt f v n = 0
  | 0, _ => rfl
  | n + 1, h => by simp [cnt, h n (by omega), cnt_none (n := n) (fun j hj => h j (by omega))]
theorem last_snoc (l : List Int) (x : Int) : ix (l ++ [x]) ((l ++ [x]).length - 1) = x := by simp [ix]
theorem ch_last {f : Nat → Int} : ∀ n, 0 < n → 0 < (chTo f n).length ∧ ix (chTo f n) ((chTo f n).length - 1) = f (n - 1)
  | 0, h => by omega
  | n + 1, _ => by
    simp only [chTo, Nat.add_sub_cancel]
    split
    · exact ⟨by simp, last_snoc _ _⟩
    · rename_i h
      have : ¬ ((chTo f n).length = 0) ∧ ¬ (ix (chTo f n) ((chTo f n).length - 1) ≠ f n) := ⟨fun h' => h (.inl h'), fun h' => h (.inr h')⟩
      exact ⟨by omega, Classical.not_not.1 this.2⟩
theorem ch_le {f : Nat → Int} : ∀ {n}, (∀ i j, i ≤ j → j < n → f i ≤ f j) → ∀ x ∈ chTo f n, ∃ j, j < n ∧ x = f j
  | 0, _, x, hx => by simp [chTo] at hx
  | n + 1, hm, x, hx => by
    simp only [chTo] at hx
    split at hx
    · rw [List.mem_append, List.mem_singleton] at hx
      rcases hx with hx | rfl
      · obtain ⟨j, h1, h2⟩ := ch_le (n := n) (fun i j a b => hm i j a (by omega)) x hx
        exact ⟨j, by omega, h2⟩
      · exact ⟨n, by omega, rfl⟩
    · obtain ⟨j, h1, h2⟩ := ch_le (n := n) (fun i j a b => hm i j a (by omega)) x hx
      exact ⟨j, by omega, h2⟩
theorem mem_last {l : List Int} (h : 0 < l.length) : ix l (l.length - 1) ∈ l := by rw [ix_lt (by omega)]; exact List.getElem_mem _
/-- the children: ascending, and each row is one child's -/
theorem ch_sum {f : Nat → Int} : ∀ {n}, (∀ i j, i ≤ j → j < n → f i ≤ f j) → (chTo f n).Pairwise (· < ·) ∧ sumL (fun v => cnt f v n) (chTo f n) = n
  | 0, _ => by simp [chTo, sumL]
  | n + 1, hm => by
    obtain ⟨h1, h2⟩ := ch_sum (n := n) (fun i j a b => hm i j a (by omega))
    have hle := ch_le (n := n) (fun i j a b => hm i j a (by omega))
    by_cases hc : (chTo f n).length = 0 ∨ ix (chTo f n) ((chTo f n).length - 1) ≠ f n
    · rw [chTo_put hc]
      have hlt : ∀ j, j < n → f j < f n := fun j hj => by
        rcases hc with hc | hc
        · have := (ch_last (f := f) n (by omega)).1; omega
        · have h3 := (ch_last (f := f) n (by omega)).2
          rw [h3] at hc
          have h4 := hm j (n - 1) (by omega) (by omega)
          have h5 := hm (n - 1) n (by omega) (by omega)
          omega
      refine ⟨List.pairwise_append.2 ⟨h1, List.pairwise_singleton _ _, fun a ha b hb => ?_⟩, ?_⟩
      · rw [List.mem_singleton] at hb
        subst hb
        obtain ⟨j, hj, rfl⟩ := hle a ha
        exact hlt j hj
      · rw [sumL_snoc]
        have e : sumL (fun v => cnt f v (n + 1)) (chTo f n) = sumL (fun v => cnt f v n) (chTo f n) := sumL_congr fun x hx => by
          obtain ⟨j, hj, rfl⟩ := hle x hx
          have := hlt j hj
          simp only [cnt]
          rw [if_neg (by omega)]; omega
        rw [e, h2]
        simp only [cnt]
        rw [cnt_none (fun j hj => by have := hlt j hj; omega)]
        simp
    · have hc1 : (chTo f n).length ≠ 0 := fun h => hc (.inl h)
      have hc2 : ix (chTo f n) ((chTo f n).length - 1) = f n := Classical.not_not.1 fun h => hc (.inr h)
      rw [chTo_keep hc1 hc2]
      refine ⟨h1, ?_⟩
      have hmem : f n ∈ chTo f n := by rw [← hc2]; exact mem_last (by omega)
      have key : ∀ l : List Int, l.Pairwise (· < ·) → f n ∈ l → sumL (fun v => cnt f v (n + 1)) l = sumL (fun v => cnt f v n) l + 1 := by
        intro l
        induction l with
        | nil => intro _ h; simp at h
        | cons x l ih =>
          intro hp hx
          rw [List.pairwise_cons] at hp
          rcases List.mem_cons.1 hx with e | hx
          · have : sumL (fun v => cnt f v (n + 1)) l = sumL (fun v => cnt f v n) l := sumL_congr fun y hy => by
              have := hp.1 y hy
              simp only [cnt]
              rw [if_neg (by omega)]; omega
            have e1 : ∀ k, sumL (fun v => cnt f v k) (x :: l) = cnt f x k + sumL (fun v => cnt f v k) l := fun _ => rfl
            rw [e1, e1, this, show cnt f x (n + 1) = cnt f x n + (if f n = x then 1 else 0) from rfl, if_pos e]; omega
          · have h3 := hp.1 _ hx
            have e1 : ∀ k, sumL (fun v => cnt f v k) (x :: l) = cnt f x k + sumL (fun v => cnt f v k) l := fun _ => rfl
            rw [e1, e1, ih hp.2 hx, show cnt f x (n + 1) = cnt f x n + (if f n = x then 1 else 0) from rfl, if_neg (by omega)]; omega
      rw [key _ h1 hmem, h2]
section
variable {ar : Int} {rows : List (List Int)} (hv : validR ar rows = true)
include hv
theorem rows_len {i : Nat} (hi : i < rows.length) : ((rx rows i).length : Int) = ar := by
  simp only [validR, decide_eq_true_eq] at hv
  exact (hv.2.2 i hi).1
theorem rows_lt : ∀ {i j : Nat}, i < j → j < rows.length → cmpR (rx rows i) (rx rows j) < 0 := by
  have h := hv
  simp only [validR, decide_eq_true_eq] at h
  intro i j
  induction j with
  | zero => intro h1; omega
  | succ j ih =>
    intro h1 h2
    have h3 := (h.2.2 (j + 1) h2).2.2 (by omega)
    simp only [Nat.add_sub_cancel] at h3
    by_cases e : i = j
    · subst e; exact h3
    · have h4 := ih (by omega) (by omega)
      have l1 := rows_len hv (show i < rows.length by omega)
      have l2 := rows_len hv (show j < rows.length by omega)
      have l3 := rows_len hv h2
      exact (cmpR_tr (by omega) (by omega) (by omega) (by omega)).2 (.inl h4)
theorem takes_le {i j : Nat} (q : Nat) (h1 : i ≤ j) (h2 : j < rows.length) : cmpR ((rx rows i).take q) ((rx rows j).take q) ≤ 0 := by
  by_cases e : i = j
  · subst e; rw [cmpR_self]; omega
  · have l1 := rows_len hv (show i < rows.length by omega)
    have l2 := rows_len hv h2
    have := rows_lt hv (show i < j by omega) h2
    exact cmpR_take q (by omega) (by omega)
/-- the rows with the stem p are those from preLo to preHi -/
theorem pre_iff {p : List Int} (hp : (p.length : Int) ≤ ar) {i : Nat} (hi : i < rows.length) : (preLo rows p ≤ i ∧ i < preHi rows p) ↔ (rx rows i).take p.length = p := by
  have hlen : ∀ {j}, j < rows.length → ((rx rows j).take p.length).length = p.length := fun {j} hj => by
    have := rows_len hv hj
    rw [List.length_take]; omega
  have mono : ∀ {a b : Nat}, a ≤ b → b < rows.length → (cmpP rows p b < 0 → cmpP rows p a < 0) ∧ (cmpP rows p b ≤ 0 → cmpP rows p a ≤ 0) := fun {a b} h1 h2 => by
    have h3 := takes_le hv p.length h1 h2
    unfold cmpP
    have t := fun h => cmpR_tr (c := p) (by rw [hlen (show a < rows.length by omega), hlen h2]) (hlen h2) h3 h
    exact ⟨fun h => (t (by omega)).2 (.inr h), fun h => (t h).1⟩
  have hz : cmpP rows p i = 0 ↔ (rx rows i).take p.length = p := cmpR_zero
  rw [← hz]
  have hrg := cmpR_rng ((rx rows i).take p.length) p
  have s1 := firstIx_sp (fun i => ¬ cmpP rows p i < 0) rows.length
  have s2 := firstIx_sp (fun i => preLo rows p ≤ i ∧ cmpP rows p i ≠ 0) rows.length
  have lo1 : ∀ j, j < preLo rows p → cmpP rows p j < 0 := fun j hj => Classical.not_not.1 (s1.2 j hj)
  have lo2 : preLo rows p < rows.length → ¬ cmpP rows p (preLo rows p) < 0 := fun h => s1.1 h
  have hi1 : ∀ j, preLo rows p ≤ j → j < preHi rows p → cmpP rows p j = 0 := fun j h1 h2 => Classical.not_not.1 fun h3 => s2.2 j h2 ⟨h1, h3⟩
  have hi2 : preHi rows p < rows.length → preLo rows p ≤ preHi rows p ∧ cmpP rows p (preHi rows p) ≠ 0 := fun h => s2.1 h
  have hrg2 : ∀ j, cmpP rows p j = -1 ∨ cmpP rows p j = 0 ∨ cmpP rows p j = 1 := fun j => cmpR_rng _ _
  constructor
  · rintro ⟨h1, h2⟩; exact hi1 i h1 h2
  · intro h
    have a1 : preLo rows p ≤ i := by
      by_cases e : i < preLo rows p
      · have := lo1 i e; omega
      · omega
    refine ⟨a1, ?_⟩
    by_cases e : i < preHi rows p
    · exact e
    · exfalso
      have b1 := hi2 (by omega)
      have b2 := (mono (show preHi rows p ≤ i by omega) hi).2 (by omega)
      have b3 := lo2 (by omega)
      have b4 := (mono b1.1 (by omega)).1
      rcases hrg2 (preHi rows p) with g | g | g
      · exact b3 (b4 (by omega))
      · exact b1.2 g
      · omega
theorem take_snoc {i : Nat} {q : Nat} (hi : i < rows.length) (hq : (q : Int) < ar) : (rx rows i).take (q + 1) = (rx rows i).take q ++ [ix (rx rows i) q] := by
  have := rows_len hv hi
  have hl : q < (rx rows i).length := by omega
  rw [List.take_succ_eq_append_getElem hl, ix_lt hl]
theorem col_le {p : List Int} (hp : (p.length : Int) < ar) {i j : Nat} (h1 : i ≤ j) (hj : j < rows.length) (e1 : (rx rows i).take p.length = p) (e2 : (rx rows j).take p.length = p) : ix (rx rows i) p.length ≤ ix (rx rows j) p.length := by
  have h := takes_le hv (p.length + 1) h1 hj
  rw [take_snoc hv (by omega) hp, take_snoc hv hj hp, e1, e2, cmpR_snoc] at h
  unfold cmpI at h
  split at h
  · omega
  · split at h <;> omega
theorem pre_child {p : List Int} (hp : (p.length : Int) < ar) (v : Int) {i : Nat} (hi : i < rows.length) : (preLo rows (p ++ [v]) ≤ i ∧ i < preHi rows (p ++ [v])) ↔ (preLo rows p ≤ i ∧ i < preHi rows p) ∧ ix (rx rows i) p.length = v := by
  rw [pre_iff hv (p := p ++ [v]) (by simp; omega) hi, pre_iff hv (by omega) hi, List.length_append, List.length_singleton, take_snoc hv hi hp]
  constructor
  · intro h
    have hl : ((rx rows i).take p.length).length = p.length := by
      have := rows_len hv hi
      rw [List.length_take]; omega
    have := List.append_inj h hl
    exact ⟨this.1, by simpa using this.2⟩
  · rintro ⟨h1, h2⟩; rw [h1, h2]
end
theorem cnt_rng {f : Nat → Int} {v : Int} : ∀ {n lo hi : Nat}, lo ≤ hi → hi ≤ n → (∀ i, i < n → ((lo ≤ i ∧ i < hi) ↔ f i = v)) → cnt f v n = hi - lo := by
  intro n
  induction n with
  | zero => intro lo hi h1 h2 _; simp [cnt]; omega
  | succ n ih =>
    intro lo hi h1 h2 h3
    simp only [cnt]
    have h4 := h3 n (by omega)
    by_cases e : hi ≤ n
    · rw [ih h1 e (fun i hi => h3 i (by omega)), if_neg (fun h => by have := h4.2 h; omega)]; omega
    · obtain rfl : hi = n + 1 := by omega
      by_cases e2 : lo ≤ n
      · rw [ih (lo := lo) (hi := n) e2 (Nat.le_refl _) (fun i hi => by have := h3 i (by omega); constructor
                                                                       · rintro ⟨a, b⟩; exact this.1 ⟨a, by omega⟩
                                                                       · intro h; exact ⟨(this.2 h).1, hi⟩), if_pos (h4.1 ⟨e2, by omega⟩)]
        omega
      · rw [ih (lo := n) (hi := n) (Nat.le_refl _) (Nat.le_refl _) (fun i hi => ⟨fun h => by omega, fun h => by have := (h3 i (by omega)).2 h; omega⟩), if_neg (fun h => by have := h4.2 h; omega)]
        omega
theorem preHi_le' (rows : List (List Int)) (p : List Int) : preHi rows p ≤ rows.length := firstIx_le _ _
section
variable {ar : Int} {rows : List (List Int)} (hv : validR ar rows = true)
include hv
theorem child_cnt {p : List Int} (hp : (p.length : Int) < ar) (v : Int) : cnt (chAt rows (preLo rows p) p.length) v (preHi rows p - preLo rows p) = preHi rows (p ++ [v]) - preLo rows (p ++ [v]) := by
  have hh := preHi_ge rows p
  have hh' := preHi_ge rows (p ++ [v])
  have hl := preHi_le' rows p
  have hl' := preHi_le' rows (p ++ [v])
  by_cases e : preLo rows (p ++ [v]) = preHi rows (p ++ [v])
  · rw [cnt_none (fun j hj he => ?_)]
    · omega
    · have := (pre_child hv hp v (i := preLo rows p + j) (by omega)).2 ⟨⟨by omega, by omega⟩, he⟩
      omega
  · have a := (pre_child hv hp v (i := preLo rows (p ++ [v])) (by omega)).1 ⟨by omega, by omega⟩
    have b := (pre_child hv hp v (i := preHi rows (p ++ [v]) - 1) (by omega)).1 ⟨by omega, by omega⟩
    rw [cnt_rng (lo := preLo rows (p ++ [v]) - preLo rows p) (hi := preHi rows (p ++ [v]) - preLo rows p) (by omega) (by omega) (fun i hi => ?_)]
    · omega
    · have c := pre_child hv hp v (i := preLo rows p + i) (by omega)
      have e2 : chAt rows (preLo rows p) p.length i = ix (rx rows (preLo rows p + i)) p.length := rfl
      rw [e2]
      constructor
      · intro h; exact (c.1 ⟨by omega, by omega⟩).2
      · intro h; have := c.2 ⟨⟨by omega, by omega⟩, h⟩; omega
end
theorem child_facts (ar : Int) (rows : List (List Int)) (p : List Int) : (childF ar rows p).Pairwise (· < ·) ∧ ((p.length : Int) < ar → sumL (fun v => rangeHi ar rows (p ++ [v]) - rangeLo ar rows (p ++ [v])) (childF ar rows p) = rangeHi ar rows p - rangeLo ar rows p) := by
  by_cases h : preOK ar rows p = true ∧ (p.length : Int) < ar
  · have hv : validR ar rows = true := by have := h.1; unfold preOK at this; simp only [Bool.and_eq_true] at this; exact this.1
    have hh := preHi_ge rows p
    have hl := preHi_le' rows p
    obtain ⟨g1, g2⟩ := ch_sum (f := chAt rows (preLo rows p) p.length) (n := preHi rows p - preLo rows p) (fun i j a b => by
      refine col_le hv h.2 (i := preLo rows p + i) (j := preLo rows p + j) (by omega) (by omega) ?_ ?_
      · exact (pre_iff hv (by omega) (by omega)).1 ⟨by omega, by omega⟩
      · exact (pre_iff hv (by omega) (by omega)).1 ⟨by omega, by omega⟩)
    rw [childF_yes h]
    refine ⟨g1, fun _ => ?_⟩
    have e : rangeHi ar rows p - rangeLo ar rows p = preHi rows p - preLo rows p := by unfold rangeHi rangeLo; rw [if_pos h.1, if_pos h.1]
    refine (sumL_congr fun v hv' => ?_).trans (g2.trans e.symm)
    have hp : preOK ar rows (p ++ [v]) = true := by
      unfold preOK; rw [hv]
      have := h.2
      simp; omega
    unfold rangeHi rangeLo
    rw [if_pos hp, if_pos hp, child_cnt hv h.2]
  · rw [childF_no h]
    refine ⟨.nil, fun hlt => ?_⟩
    have hp : ¬ preOK ar rows p = true := fun h' => h ⟨h', hlt⟩
    unfold rangeHi rangeLo
    rw [if_neg hp, if_neg hp]
    rfl
theorem child_asc (ar : Int) (rows : List (List Int)) (p : List Int) : ascB (childF ar rows p) = true := by
  have h := (child_facts ar rows p).1
  refine ascB_true fun i hi => ?_
  have := List.pairwise_iff_getElem.1 h i (i + 1) (by omega) hi (by omega)
  rw [ix_lt (by omega), ix_lt hi]
  exact this
end Go.Proofs.Ytpamedlmbopfjaa
