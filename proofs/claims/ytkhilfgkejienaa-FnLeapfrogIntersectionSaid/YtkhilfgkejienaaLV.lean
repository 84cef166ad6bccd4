/- What the leapfrog intersection returns: the common elements in ascending order; how many steps it takes. -/
import Derived.Test.YtkhilfgkejienaaW12
namespace Go.Proofs.Ytkhilfgkejienaa
set_option linter.unusedSimpArgs false
set_option linter.unusedVariables false
open Go.RowKit
theorem asc_lt {xs : List Int} {n : Nat} (h : AscTo xs n) : ∀ {i j : Nat}, i < j → j < n → ix xs i < ix xs j := by
  intro i j hij hj
  obtain ⟨d, rfl⟩ := Nat.le.dest hij
  induction d with
  | zero => exact h i (by omega)
  | succ d ih =>
    have h1 := ih (by omega) (by omega)
    have h2 := h (i + 1 + d) (by omega)
    rw [show i.succ + (d + 1) = i + 1 + d + 1 by omega]
    rw [show i.succ + d = i + 1 + d by omega] at h1
    omega
theorem asc_pair {xs : List Int} (h : AscTo xs xs.length) : xs.Pairwise (· < ·) := by
  rw [List.pairwise_iff_getElem]
  intro i j hi hj hij
  have := asc_lt h hij hj
  rwa [ix_lt hi, ix_lt hj] at this
theorem pair_asc {xs : List Int} (h : xs.Pairwise (· < ·)) : AscTo xs xs.length := by
  rw [List.pairwise_iff_getElem] at h
  intro i hi
  rw [ix_lt (by omega), ix_lt hi]
  exact h i (i + 1) (by omega) hi (by omega)
theorem pair_len {v : List Int} : ∀ {u : List Int}, u.Pairwise (· < ·) → v.Pairwise (· < ·) → (∀ x ∈ u, x ∈ v) → u.length ≤ v.length := by
  induction v with
  | nil =>
    intro u _ _ h
    cases u with
    | nil => simp
    | cons a u => exact absurd (h a (List.mem_cons_self ..)) (by simp)
  | cons b v ih =>
    intro u hu hv h
    cases u with
    | nil => simp
    | cons a u =>
      rw [List.pairwise_cons] at hu hv
      by_cases e : a = b
      · subst e
        have := ih hu.2 hv.2 (fun x hx => by
          rcases List.mem_cons.1 (h x (List.mem_cons_of_mem _ hx)) with e | e
          · have := hu.1 x hx; omega
          · exact e)
        simp; omega
      · have ha : a ∈ v := by
          rcases List.mem_cons.1 (h a (List.mem_cons_self ..)) with e' | e'
          · exact absurd e' e
          · exact e'
        have hb := hv.1 a ha
        have := ih (u := a :: u) (List.pairwise_cons.2 hu) hv.2 (fun x hx => by
          rcases List.mem_cons.1 (h x hx) with e' | e'
          · rcases List.mem_cons.1 hx with e2 | e2
            · omega
            · have := hu.1 x e2; omega
          · exact e')
        simp at this ⊢; omega
theorem pair_ext {u v : List Int} (hu : u.Pairwise (· < ·)) (hv : v.Pairwise (· < ·)) (h : ∀ x, x ∈ u ↔ x ∈ v) : u = v := by
  induction u generalizing v with
  | nil =>
    cases v with
    | nil => rfl
    | cons b v => exact absurd ((h b).2 (List.mem_cons_self ..)) (by simp)
  | cons a u ih =>
    cases v with
    | nil => exact absurd ((h a).1 (List.mem_cons_self ..)) (by simp)
    | cons b v =>
      rw [List.pairwise_cons] at hu hv
      have e : a = b := by
        rcases List.mem_cons.1 ((h a).1 (List.mem_cons_self ..)) with e | e
        · exact e
        · rcases List.mem_cons.1 ((h b).2 (List.mem_cons_self ..)) with e2 | e2
          · exact e2.symm
          · have := hv.1 a e; have := hu.1 b e2; omega
      subst e
      rw [ih hu.2 hv.2 (fun x => ?_)]
      constructor
      · intro hx
        rcases List.mem_cons.1 ((h x).1 (List.mem_cons_of_mem _ hx)) with e | e
        · have := hu.1 x hx; omega
        · exact e
      · intro hx
        rcases List.mem_cons.1 ((h x).2 (List.mem_cons_of_mem _ hx)) with e | e
        · have := hv.1 x hx; omega
        · exact e
/-- how often list k was stepped on in the first s steps -/
def cntL (n k : Nat) : Nat → Nat
  | 0 => 0
  | s + 1 => cntL n k s + if s % n = k then 1 else 0
theorem cnt_steps {n k : Nat} (hk : k < n) : ∀ s, s ≤ n * cntL n k s + k
  | 0 => by omega
  | s + 1 => by
    have ih := cnt_steps hk s
    simp only [cntL]
    split
    · rw [Nat.mul_add]; omega
    · rename_i h
      have : s ≠ n * cntL n k s + k := fun e => h (by rw [e, Nat.mul_add_mod]; exact Nat.mod_eq_of_lt hk)
      simp; omega
/-- the value that list k stands at -/
def atV (L : List (List Int)) (p : List Nat) (k : Nat) : Int := ix (rx L k) (ox p k)
structure LeapI (L : List (List Int)) (s : Nat) (p : List Nat) (top : Int) (out : List Int) : Prop where
  ok : LeapOK L p top
  cyc : ∀ i j, i ≤ j → j < L.length → atV L p ((s + i) % L.length) ≤ atV L p ((s + j) % L.length)
  last : top = atV L p ((s + (L.length - 1)) % L.length)
  asc : out.Pairwise (· < ·)
  low : ∀ x ∈ out, x < top
  snd : ∀ x ∈ out, ∀ k, k < L.length → x ∈ rx L k
  all : ∀ x, (∀ k, k < L.length → x ∈ rx L k) → x ∈ out ∨ top ≤ x
  cnt : ∀ k, k < L.length → cntL L.length k s ≤ ox p k
theorem mod_next {n s i : Nat} : (s + 1 + i) % n = (s + (i + 1)) % n := by congr 1; omega
theorem mod_wrap {n s : Nat} (hn : 0 < n) : (s + 1 + (n - 1)) % n = s % n := by
  rw [show s + 1 + (n - 1) = s + n by omega, Nat.add_mod_right]
theorem mod_ne {n s i : Nat} (h : i + 1 < n) : (s + (i + 1)) % n ≠ s % n := by
  intro e
  have h1 := Nat.div_add_mod s n
  have h2 := Nat.div_add_mod (s + (i + 1)) n
  rw [e] at h2
  have h3 : n * ((s + (i + 1)) / n) = n * (s / n) + (i + 1) := by omega
  have h4 : s / n ≤ (s + (i + 1)) / n := Nat.div_le_div_right (by omega)
  obtain ⟨d, hd⟩ := Nat.le.dest h4
  rw [← hd, Nat.mul_add] at h3
  have h5 : n * d = i + 1 := by omega
  cases d with
  | zero => omega
  | succ d => rw [Nat.mul_succ] at h5; have : 0 ≤ n * d := Nat.zero_le _; omega
/-- a step: list k = s % n goes to place v, its number there is the new maximum -/
theorem LeapI.step {L : List (List Int)} {s : Nat} {p : List Nat} {top : Int} {out out' : List Int} {v : Nat} (h : LeapI L s p top out) (hv : v < (rx L (s % L.length)).length) (hlt : ox p (s % L.length) < v) (ht : top ≤ ix (rx L (s % L.length)) v)
    (asc : out'.Pairwise (· < ·)) (low : ∀ x ∈ out', x < ix (rx L (s % L.length)) v) (snd : ∀ x ∈ out', ∀ k, k < L.length → x ∈ rx L k) (all : ∀ x, (∀ k, k < L.length → x ∈ rx L k) → x ∈ out' ∨ ix (rx L (s % L.length)) v ≤ x) :
    LeapI L (s + 1) (p.set (s % L.length) v) (ix (rx L (s % L.length)) v) out' := by
  have hn := h.ok.pos
  have hk : s % L.length < L.length := Nat.mod_lt _ hn
  have hp : s % L.length < p.length := by rw [h.ok.len]; exact hk
  have e1 : ∀ j, atV L (p.set (s % L.length) v) j = if j = s % L.length then ix (rx L (s % L.length)) v else atV L p j := fun j => by
    unfold atV
    rw [ox_set hp]
    split
    · rename_i e; rw [e]
    · rfl
  refine ⟨h.ok.next hk hv ht, fun i j hij hj => ?_, ?_, asc, low, snd, all, fun k hk' => ?_⟩
  · rw [e1, e1]
    by_cases hj2 : j = L.length - 1
    · subst hj2
      rw [mod_wrap hn, if_pos rfl]
      split
      · exact Int.le_refl _
      · have := h.ok.le _ (Nat.mod_lt (s + 1 + i) hn)
        exact Int.le_trans this ht
    · rw [mod_next, mod_next, if_neg (mod_ne (by omega)), if_neg (mod_ne (by omega))]
      exact h.cyc _ _ (by omega) (by omega)
  · rw [e1, mod_wrap hn, if_pos rfl]
  · rw [ox_set hp]
    simp only [cntL]
    have := h.cnt k hk'
    by_cases e : s % L.length = k
    · subst e
      rw [if_pos rfl, if_pos rfl]; omega
    · rw [if_neg e, if_neg (fun x => e x.symm)]; omega
/-- what stands when the steps have ended -/
structure LeapE (L : List (List Int)) (R : List Int × Nat) : Prop where
  asc : R.1.Pairwise (· < ·)
  mem : ∀ x, x ∈ R.1 ↔ ∀ k, k < L.length → x ∈ rx L k
  cnt : ∀ k, k < L.length → R.2 ≤ L.length * (rx L k).length + k
theorem mem_rx {L : List (List Int)} {k : Nat} {x : Int} : x ∈ rx L k ↔ ∃ i, i < (rx L k).length ∧ ix (rx L k) i = x := by
  rw [List.mem_iff_getElem]
  constructor
  · rintro ⟨i, hi, e⟩; exact ⟨i, hi, by rw [ix_lt hi]; exact e⟩
  · rintro ⟨i, hi, e⟩; exact ⟨i, hi, by rw [ix_lt hi] at e; exact e⟩
theorem leap_right {L : List (List Int)} (hasc : ∀ k, k < L.length → AscTo (rx L k) (rx L k).length) : ∀ (f s : Nat) (p : List Nat) (top : Int) (out : List Int) (R : List Int × Nat), LeapI L s p top out → leapN L f s p top out = some R → LeapE L R
  | 0, _, _, _, _, _, _, h => by simp [leapN] at h
  | f + 1, s, p, top, out, R, hI, h => by
    have hn := hI.ok.pos
    have hk : s % L.length < L.length := Nat.mod_lt _ hn
    have ha := hasc _ hk
    have hpk := hI.ok.at_ _ hk
    -- the steps are few
    have hcnt : ∀ k, k < L.length → s + 1 ≤ L.length * (rx L k).length + k := fun k hk' => by
      have c0 := cnt_steps hk' (s + 1)
      have c1 := hI.cnt k hk'
      have c2 := hI.ok.at_ k hk'
      have c3 : cntL L.length k (s + 1) ≤ (rx L k).length := by
        simp only [cntL]; split <;> omega
      have := Nat.mul_le_mul_left L.length c3
      omega
    by_cases hv : ix (rx L (s % L.length)) (ox p (s % L.length)) = top
    · obtain ⟨h1, h2⟩ := leap_hit h rfl hv
      -- all lists stand at top
      have hall : ∀ k, k < L.length → top ∈ rx L k := fun k hk' => by
        have hge : top ≤ atV L p k := by
          obtain ⟨j, hj, e⟩ : ∃ j, j < L.length ∧ (s + j) % L.length = k := by
            refine ⟨(k + (L.length - s % L.length)) % L.length, Nat.mod_lt _ hn, ?_⟩
            rw [Nat.add_mod_mod]
            have e0 := Nat.div_add_mod s L.length
            have e1 : s + (k + (L.length - s % L.length)) = k + L.length * (s / L.length + 1) := by
              rw [Nat.mul_add]; omega
            rw [e1, Nat.add_mul_mod_self_left]
            exact Nat.mod_eq_of_lt hk'
          have := hI.cyc 0 j (Nat.zero_le _) hj
          rw [e, Nat.add_zero] at this
          unfold atV at this
          rw [hv] at this
          exact this
        have hle := hI.ok.le k hk'
        exact mem_rx.2 ⟨ox p k, hI.ok.at_ k hk', by unfold atV at hge; omega⟩
      have asc' : (out ++ [top]).Pairwise (· < ·) := by
        rw [List.pairwise_append]
        exact ⟨hI.asc, List.pairwise_singleton _ _, fun a ha b hb => by rw [List.mem_singleton] at hb; subst hb; exact hI.low a ha⟩
      have snd' : ∀ x ∈ out ++ [top], ∀ k, k < L.length → x ∈ rx L k := fun x hx k hk' => by
        rcases List.mem_append.1 hx with hx | hx
        · exact hI.snd x hx k hk'
        · rw [List.mem_singleton] at hx; subst hx; exact hall k hk'
      by_cases hend : ox p (s % L.length) + 1 = (rx L (s % L.length)).length
      · rw [h1 hend]
        refine ⟨asc', fun x => ⟨snd' x, fun hx => ?_⟩, hcnt⟩
        rcases hI.all x hx with h3 | h3
        · exact List.mem_append_left _ h3
        · obtain ⟨i, hi, rfl⟩ := mem_rx.1 (hx _ hk)
          refine List.mem_append_right _ (List.mem_singleton.2 ?_)
          by_cases e : i = ox p (s % L.length)
          · rw [e, hv]
          · have := asc_lt ha (show i < ox p (s % L.length) by omega) hpk
            omega
      · have hlt := asc_lt ha (show ox p (s % L.length) < ox p (s % L.length) + 1 by omega) (by omega)
        refine leap_right hasc f _ _ _ _ R (hI.step (by omega) (by omega) (by omega) asc' (fun x hx => ?_) snd' (fun x hx => ?_)) (h2 hend)
        · rcases List.mem_append.1 hx with hx | hx
          · have := hI.low x hx; omega
          · rw [List.mem_singleton] at hx; omega
        · rcases hI.all x hx with h3 | h3
          · exact .inl (List.mem_append_left _ h3)
          · obtain ⟨i, hi, rfl⟩ := mem_rx.1 (hx _ hk)
            by_cases e : i = ox p (s % L.length)
            · left
              refine List.mem_append_right _ (List.mem_singleton.2 ?_)
              rw [e, hv]
            · right
              by_cases e2 : i < ox p (s % L.length)
              · have := asc_lt ha e2 hpk; omega
              · by_cases e3 : i = ox p (s % L.length) + 1
                · rw [e3]; exact Int.le_refl _
                · exact Int.le_of_lt (asc_lt ha (by omega) hi)
    · obtain ⟨q, hq, hq1, hq2, hq3⟩ := seekF_nat (rx L (s % L.length)) (ox p (s % L.length)) top
      obtain ⟨h1, h2⟩ := leap_seek h rfl hv hq
      have hlt : ix (rx L (s % L.length)) (ox p (s % L.length)) < top := by
        have := hI.ok.le _ hk; omega
      have hbelow : ∀ i, i < (rx L (s % L.length)).length → i < q → ix (rx L (s % L.length)) i < top := fun i hi hiq => by
        by_cases e : ox p (s % L.length) ≤ i
        · exact hq3 i hiq (by omega)
        · have := asc_lt ha (show i < ox p (s % L.length) by omega) hpk; omega
      by_cases hend : q = (rx L (s % L.length)).length
      · rw [h1 hend]
        refine ⟨hI.asc, fun x => ⟨hI.snd x, fun hx => ?_⟩, hcnt⟩
        rcases hI.all x hx with h3 | h3
        · exact h3
        · obtain ⟨i, hi, rfl⟩ := mem_rx.1 (hx _ hk)
          have := hbelow i hi (by omega)
          omega
      · have hql : q < (rx L (s % L.length)).length := by omega
        obtain ⟨g1, g2⟩ := hq2 hql
        have hpq : ox p (s % L.length) < q := by
          refine Nat.lt_of_not_le fun hle => ?_
          have : q = ox p (s % L.length) := by omega
          rw [this] at g2; omega
        refine leap_right hasc f _ _ _ _ R (hI.step hql hpq g2 hI.asc (fun x hx => ?_) hI.snd (fun x hx => ?_)) (h2 hend)
        · have := hI.low x hx; omega
        · rcases hI.all x hx with h3 | h3
          · exact .inl h3
          · right
            obtain ⟨i, hi, rfl⟩ := mem_rx.1 (hx _ hk)
            have hge : q ≤ i := Nat.le_of_not_lt fun hlt' => by have := hbelow i hi hlt'; omega
            by_cases e : i = q
            · rw [e]; exact Int.le_refl _
            · exact Int.le_of_lt (asc_lt ha (by omega) hi)
theorem ordIx_mem (L : List (List Int)) (i : Nat) : ∀ j, j ∈ ordIx L i ↔ j < i := by
  induction i with
  | zero => intro j; simp [ordIx]
  | succ i ih =>
    intro j
    simp only [ordIx]
    generalize insK _ _ _ = k
    have e : j ∈ (ordIx L i).take k ∨ j ∈ (ordIx L i).drop k ↔ j ∈ ordIx L i := by
      conv => rhs; rw [← List.take_append_drop k (ordIx L i)]
      rw [List.mem_append]
    simp only [List.mem_append, List.mem_singleton]
    have := ih j
    constructor
    · rintro ((h | h) | h)
      · have := this.1 (e.1 (.inl h)); omega
      · omega
      · have := this.1 (e.1 (.inr h)); omega
    · intro h
      by_cases e2 : j = i
      · exact .inl (.inr e2)
      · rcases e.2 (this.2 (by omega)) with h | h
        · exact .inl (.inl h)
        · exact .inr h
theorem ord_all {xss : List (List Int)} {P : List Int → Prop} : (∀ k, k < (ordL xss xss.length).length → P (rx (ordL xss xss.length) k)) ↔ ∀ i, i < xss.length → P (rx xss i) := by
  rw [ordL_len]
  constructor
  · intro h i hi
    obtain ⟨k, hk, e⟩ := List.mem_iff_getElem.1 ((ordIx_mem xss xss.length i).2 hi)
    rw [ordIx_len] at hk
    have := h k hk
    rw [rx_ordL hk, ox_lt (by rw [ordIx_len]; exact hk), e] at this
    exact this
  · intro h k hk
    rw [rx_ordL hk]
    refine h _ ?_
    have h2 := ordIx_len xss xss.length
    rw [ox_lt (by omega)]
    exact ordIx_lt xss xss.length _ (List.getElem_mem _)
theorem find_mem {xs : List Int} {x : Int} : 0 ≤ findF xs x ↔ x ∈ xs := by
  unfold findF
  have h := firstIx_spec (fun i => ix xs i = x) xs.length
  constructor
  · intro h0
    split at h0
    · rename_i hl
      have := h.1 hl
      rw [ix_lt hl] at this
      rw [← this]; exact List.getElem_mem _
    · omega
  · intro hx
    obtain ⟨i, hi, e⟩ := List.mem_iff_getElem.1 hx
    have hl : firstIx (fun i => ix xs i = x) xs.length < xs.length := by
      refine Nat.lt_of_not_le fun hle => ?_
      exact h.2 i (by omega) (by rw [ix_lt hi]; exact e)
    rw [if_pos hl]; omega
theorem isTo_mem {xss : List (List Int)} (hE : ascAll xss = true) (x : Int) : ∀ k, 0 < k → (isTo xss x k = true ↔ ∀ i, 1 ≤ i → i < k → x ∈ rx xss i)
  | 0, h => by omega
  | k + 1, _ => by
    by_cases h0 : k = 0
    · subst h0; rw [isTo_one, hE]; simp; omega
    · rw [isTo_succ (by omega), Bool.and_eq_true, isTo_mem hE x k (by omega), decide_eq_true_eq, find_mem]
      constructor
      · rintro ⟨h1, h2⟩ i hi1 hi2
        by_cases e : i = k
        · subst e; exact h2
        · exact h1 i hi1 (by omega)
      · intro h
        exact ⟨fun i h1 h2 => h i h1 (by omega), h k (by omega) (by omega)⟩
theorem inter_mem {xss : List (List Int)} (hE : ascAll xss = true) (x : Int) : x ∈ interF xss ↔ ∀ i, i < xss.length → x ∈ rx xss i := by
  have h0 := (ascAll_at hE).1
  unfold interF
  rw [List.mem_filter, isTo_mem hE x _ h0]
  constructor
  · rintro ⟨h1, h2⟩ i hi
    by_cases e : i = 0
    · subst e; exact h1
    · exact h2 i (by omega) hi
  · intro h
    exact ⟨h 0 h0, fun i _ hi => h i hi⟩
theorem shTo_at {xss : List (List Int)} : ∀ k, 0 < k → ∃ i, i < k ∧ (rx xss i).length = shTo xss k
  | 0, h => by omega
  | k + 1, _ => by
    simp only [shTo]
    split
    · exact ⟨k, by omega, rfl⟩
    · rename_i h
      obtain ⟨i, hi, e⟩ := shTo_at k (by omega)
      exact ⟨i, by omega, e⟩
/-- what the law of the leapfrog wants to know -/
theorem leapF_good (xss : List (List Int)) : (leapF xss).1 = interF xss ∧ AscTo (leapF xss).1 (leapF xss).1.length ∧ (leapF xss).1.length ≤ shTo xss xss.length ∧ (leapF xss).2 ≤ xss.length * (shTo xss xss.length + 1) := by
  by_cases hE : ascAll xss = true
  case neg =>
    rw [leapF_no (fun h => hE h.1), interF_no (by simpa using hE)]
    exact ⟨rfl, fun i hi => by simp at hi, by simp, by simp⟩
  obtain ⟨h0, hasc⟩ := ascAll_at hE
  obtain ⟨m, hm, hsh⟩ := shTo_at (xss := xss) xss.length h0
  by_cases hS : shF xss = 0
  · have e : interF xss = [] := by
      refine List.eq_nil_iff_forall_not_mem.2 fun x hx => ?_
      have := (inter_mem hE x).1 hx m hm
      have hl : (rx xss m).length = 0 := by unfold shF at hS; omega
      rw [List.eq_nil_of_length_eq_zero hl] at this
      exact absurd this (by simp)
    rw [leapF_no (fun h => h.2 hS), e]
    exact ⟨rfl, fun i hi => by simp at hi, by simp, by simp⟩
  have hrun := leapF_run hE hS
  obtain ⟨hok, hpos, _⟩ := leap_start hE hS
  have hlen := ordL_len xss xss.length
  have hat : ∀ k, atV (ordL xss xss.length) (leapP xss) k = ix (rx (ordL xss xss.length) k) 0 := fun k => by
    unfold atV leapP; rw [ox_rep]
  have hascL : ∀ k, k < (ordL xss xss.length).length → AscTo (rx (ordL xss xss.length) k) (rx (ordL xss xss.length) k).length := (ord_all (P := fun l => AscTo l l.length)).2 hasc
  have hI : LeapI (ordL xss xss.length) 0 (leapP xss) (leapTop xss) [] := by
    refine ⟨hok, fun i j hij hj => ?_, ?_, List.Pairwise.nil, fun x hx => by simp at hx, fun x hx => by simp at hx, fun x hx => .inr ?_, fun k hk => Nat.zero_le _⟩
    · rw [hlen] at hj
      rw [hlen, Nat.zero_add, Nat.zero_add, Nat.mod_eq_of_lt hj, Nat.mod_eq_of_lt (show i < xss.length by omega), hat, hat, rx_ordL (by omega), rx_ordL hj]
      exact ordIx_sorted xss xss.length i j hij hj
    · rw [hat, hlen, Nat.zero_add, Nat.mod_eq_of_lt (by omega)]; rfl
    · obtain ⟨i, hi, rfl⟩ := mem_rx.1 (hx (xss.length - 1) (by omega))
      unfold leapTop
      by_cases e : i = 0
      · subst e; exact Int.le_refl _
      · exact Int.le_of_lt (asc_lt (hascL _ (by omega)) (by omega) hi)
  have hE2 := leap_right hascL _ _ _ _ _ _ hI hrun
  have hmem : ∀ x, x ∈ (leapF xss).1 ↔ ∀ i, i < xss.length → x ∈ rx xss i := fun x => (hE2.mem x).trans (ord_all (P := fun l => x ∈ l))
  have hp0 : (interF xss).Pairwise (· < ·) := List.Pairwise.filter _ (asc_pair (hasc 0 h0))
  refine ⟨pair_ext hE2.asc hp0 (fun x => (hmem x).trans (inter_mem hE x).symm), pair_asc hE2.asc, ?_, ?_⟩
  · rw [← hsh]
    exact pair_len hE2.asc (asc_pair (hasc m hm)) (fun x hx => (hmem x).1 hx m hm)
  · obtain ⟨k, hk, e⟩ : ∃ k, k < (ordL xss xss.length).length ∧ (rx (ordL xss xss.length) k).length = shTo xss xss.length := by
      obtain ⟨k, hk, e⟩ := List.mem_iff_getElem.1 ((ordIx_mem xss xss.length m).2 hm)
      rw [ordIx_len] at hk
      exact ⟨k, by omega, by rw [rx_ordL hk, ox_lt (by rw [ordIx_len]; exact hk), e, hsh]⟩
    have := hE2.cnt k hk
    rw [e, hlen] at this
    rw [hlen] at hk
    rw [Nat.mul_add]; omega
end Go.Proofs.Ytkhilfgkejienaa
