/- Regions that draw their order: a rule by invariants. Each operation of the head yields a value with a property that later growth of the world keeps; the operations of the tail come when all before them are done. One proof for each operation serves every order. -/
import Derived.Test.YtalfldflnacpeaaCell
import Derived.Orders
namespace Go.Proofs.Ytalfldflnacpeaa
set_option linter.unusedSimpArgs false
set_option linter.unusedVariables false
open Go.RowKit
section
variable {P : Program} {ops : Array Oper} {Q : Exit → Act → World → Prop}
def notDone (ops : Array Oper) (listed : Array Bool) : List Nat := (List.range ops.size).filter fun i => !listed.getD i true
abbrev PropV := Value → Nat → Nat → World → Prop
/-- the properties of the operations' values, one for each -/
def vp (l : List PropV) (i : Nat) (v : Value) (s t : Nat) (w : World) : Prop := (l.getD i fun _ _ _ _ => True) v s t w
def StableP (p : PropV) : Prop := ∀ v s t w' w'', p v s t w' → Below w'.heap.size w' w'' → p v s t w''
theorem stab_vp {l : List PropV} (h : ∀ p ∈ l, StableP p) : ∀ i v s t w' w'', vp l i v s t w' → Below w'.heap.size w' w'' → vp l i v s t w'' := by
  intro i v s t w' w'' hv hb
  unfold vp at *
  by_cases hi : i < l.length
  · have : l.getD i (fun _ _ _ _ => True) = l[i] := by simp [List.getD, hi]
    rw [this] at hv ⊢
    exact h _ (List.getElem_mem _) v s t w' w'' hv hb
  · have : l.getD i (fun _ _ _ _ => True) = fun _ _ _ _ => True := by simp [List.getD, show l.length ≤ i by omega]
    rw [this]; trivial
/-- the value is u -/
def pEq (u : Value) : PropV := fun v _ _ _ => v = u
theorem pEq_st (u : Value) : StableP (pEq u) := fun _ _ _ _ _ h _ => h
/-- the value is an empty slice with a block of its own -/
def pEmp (e : TypeId) : PropV := fun v _ _ w' => ∃ g, v = .slice (some ⟨g, 0, none⟩) 0 0 ∧ w'.heap[g]? = some (.cells #[] e (0, 0))
theorem pEmp_st (e : TypeId) : StableP (pEmp e) := fun _ _ _ _ _ ⟨g, h1, h2⟩ hb => ⟨g, h1, by rw [hb.block g (Array.getElem?_eq_some_iff.1 h2).1]; exact h2⟩
theorem notDone_set {listed : Array Bool} {i : Nat} (hi : i < ops.size) (hs : listed.size = ops.size) (hf : listed.getD i true = false) :
    (notDone ops (listed.setIfInBounds i true)).length < (notDone ops listed).length := by
  unfold notDone
  have hsub : ∀ j, (!(listed.setIfInBounds i true).getD j true) = ((!listed.getD j true) && decide (j ≠ i)) := by
    intro j
    by_cases e : i = j
    · subst e; simp [show i < listed.size by omega]
    · rw [getD_set_ne true e]; simp [show j ≠ i from fun h => e h.symm]
  have hmem : i ∈ (List.range ops.size).filter fun j => !listed.getD j true := List.mem_filter.2 ⟨List.mem_range.2 hi, by rw [hf]; rfl⟩
  have h1 : ((List.range ops.size).filter fun j => !(listed.setIfInBounds i true).getD j true) = (((List.range ops.size).filter fun j => !listed.getD j true).filter fun j => decide (j ≠ i)) := by
    rw [List.filter_filter]; congr 1; funext j; rw [hsub j, Bool.and_comm]
  rw [h1]
  exact List.length_filter_lt_length_iff_exists.2 ⟨i, hmem, by simp⟩
/-- a region by an invariant over which operations have come up -/
theorem wp_region_inv {id : Nat} {a : Act} {w : World} (hm : P.follows .mixedOrders = true) (Inv : (Nat → Bool) → Act → World → Prop)
    (hback : ∀ i o, ops[i]? = some o → ∀ e ∈ o.after, Region.binds .any e = true → e.on < i)
    (h0 : Inv (fun _ => false) a w.drew)
    (hs : ∀ (d : Nat → Bool) a' w' i o, ops[i]? = some o → d i = false → (∀ e ∈ o.after, Region.binds .any e = true → d e.on = true) →
      (∀ j o', ops[j]? = some o' → d j = true → ∀ e ∈ o'.after, Region.binds .any e = true → d e.on = true) → (∀ j, ops.size ≤ j → d j = false) → Inv d a' w' →
      wpOp P ops Q i (fun a'' w'' => Inv (fun j => if j = i then true else d j) a'' w'') a' w')
    (he : ∀ (d : Nat → Bool) a' w', (∀ i, i < ops.size → d i = true) → (∀ j, ops.size ≤ j → d j = false) → Inv d a' w' → Q .normal a' w') :
    (Code.region id ops true).wp P Q a w := by
  have all : ∀ (listed : Array Bool), listed.size = ops.size → Region.ready .any ops listed = [] → ∀ i, i < ops.size → listed.getD i false = true := by
    intro listed hsz hr i
    induction i using Nat.strongRecOn with
    | ind i ih =>
      intro hi
      cases hd : listed.getD i false with
      | true => rfl
      | false =>
        exfalso
        have hmem : i ∈ Region.ready .any ops listed := mem_ready.2 ⟨by
          have h1 : i < listed.size := by omega
          simp [Array.getD, h1] at hd ⊢; exact hd, ops[i], by simp [hi], fun e he' hb => by
          have hlt := hback i ops[i] (by simp [hi]) e he' hb
          exact ih _ hlt (by omega)⟩
        rw [hr] at hmem; cases hmem
  have key : ∀ (fuel : Nat) (listed : Array Bool) (a' : Act) (w' : World), listed.size = ops.size → (notDone ops listed).length ≤ fuel →
      (∀ j o', ops[j]? = some o' → listed.getD j false = true → ∀ e ∈ o'.after, Region.binds .any e = true → listed.getD e.on false = true) →
      Inv (fun i => listed.getD i false) a' w' → wpAny P .any ops Q fuel listed a' w' := by
    intro fuel
    induction fuel with
    | zero =>
      intro listed a' w' hsz hc hcl hI
      have hnil : notDone ops listed = [] := List.eq_nil_of_length_eq_zero (by omega)
      have hr : Region.ready .any ops listed = [] := by
        cases hr : Region.ready .any ops listed with
        | nil => rfl
        | cons x xs =>
          have hx : x ∈ Region.ready .any ops listed := by rw [hr]; simp
          obtain ⟨h1, o, ho, _⟩ := mem_ready.1 hx
          have : x ∈ notDone ops listed := List.mem_filter.2 ⟨List.mem_range.2 (Array.getElem?_eq_some_iff.1 ho).1, by rw [h1]; rfl⟩
          rw [hnil] at this; cases this
      exact ⟨hr, he _ _ _ (all listed hsz hr) (fun j hj => by simp [Array.getD, show ¬ j < listed.size by omega]) hI⟩
    | succ fuel ih =>
      intro listed a' w' hsz hc hcl hI
      refine ⟨fun hr => he _ _ _ (all listed hsz hr) (fun j hj => by simp [Array.getD, show ¬ j < listed.size by omega]) hI, fun i hi => ?_⟩
      obtain ⟨h1, o, ho, h2⟩ := mem_ready.1 hi
      have hlt := (Array.getElem?_eq_some_iff.1 ho).1
      have hd : listed.getD i false = false := by
        have h3 : i < listed.size := by omega
        simp [Array.getD, h3] at h1 ⊢; exact h1
      refine wpOp_mono (fun a'' w'' hI' => ih (listed.setIfInBounds i true) a'' w'' (by simpa using hsz) ?_ ?_ ?_) (hs _ a' w' i o ho hd h2 hcl (fun j hj => by simp [Array.getD, show ¬ j < listed.size by omega]) hI)
      · have := notDone_set hlt hsz h1; omega
      · intro j o' ho' hj e he' hb
        by_cases hji : i = j
        · subst hji
          rw [ho] at ho'; cases ho'
          by_cases hei : i = e.on
          · rw [← hei]; simp [show i < listed.size by omega]
          · rw [getD_set_ne false hei]; exact h2 e he' hb
        · rw [getD_set_ne false hji] at hj
          by_cases hei : i = e.on
          · rw [← hei]; simp [show i < listed.size by omega]
          · rw [getD_set_ne false hei]; exact hcl j o' ho' hj e he' hb
      · have heq : (fun j => if j = i then true else listed.getD j false) = (fun j => (listed.setIfInBounds i true).getD j false) := by
          symm
          funext j
          by_cases e : i = j
          · subst e; simp [show i < listed.size by omega]
          · rw [getD_set_ne false e]; simp [show ¬ j = i from fun h => e h.symm]
        exact heq ▸ hI'
  refine wp_region_any hm (key _ _ _ _ (by simp) ?_ ?_ ?_)
  · unfold notDone; exact Nat.le_trans (List.length_filter_le _ _) (by simp)
  · intro j o' ho' hj; exfalso
    by_cases hjs : j < ops.size <;> simp [Array.getD, hjs] at hj
  · have : (fun i => (Array.replicate ops.size false).getD i false) = fun _ => false := by
      funext i
      by_cases h : i < ops.size <;> simp [Array.getD, h]
    rw [this]; exact h0
/-- operation k waits for operation j, directly or through others (f steps at most) -/
def reachF (ops : Array Oper) : Nat → Nat → Nat → Bool
  | 0, _, _ => false
  | f + 1, k, j => match ops[k]? with
    | some o => o.after.toList.any fun e => Region.binds .any e && (e.on == j || reachF ops f e.on j)
    | none => false
theorem reachF_done {d : Nat → Bool} (hcl : ∀ j o', ops[j]? = some o' → d j = true → ∀ e ∈ o'.after, Region.binds .any e = true → d e.on = true) :
    ∀ (f k j : Nat), (∀ o, ops[k]? = some o → ∀ e ∈ o.after, Region.binds .any e = true → d e.on = true) → reachF ops f k j = true → d j = true := by
  intro f
  induction f with
  | zero => intro k j _ h; simp [reachF] at h
  | succ f ih =>
    intro k j hk h
    unfold reachF at h
    cases ho : ops[k]? with
    | none => rw [ho] at h; cases h
    | some o =>
      rw [ho] at h
      simp only [List.any_eq_true, Bool.and_eq_true, Bool.or_eq_true, beq_iff_eq] at h
      obtain ⟨e, he, hb, h1⟩ := h
      have hd := hk o ho e (by simpa using he) hb
      rcases h1 with rfl | h1
      · exact hd
      · exact ih e.on j (fun o' ho' => hcl e.on o' ho' hd) h1
/-- what is checked of a region: its first n operations have no guard and each a place of its own below N; edges go back; each later operation waits for all before it -/
def growB (ops : Array Oper) (n N : Nat) : Bool :=
  decide (0 < n) && decide (n ≤ ops.size) && (List.range ops.size).all (fun i => match ops[i]? with
    | some o => o.after.toList.all (fun e => !Region.binds .any e || decide (e.on < i)) &&
        (if i < n then o.guard.isNone && (match o.dst with | some t => decide (t < N) && (List.range i).all (fun j => match ops[j]? with | some o' => decide (o'.dst ≠ some t) | none => true) | none => false)
         else (List.range i).all (fun j => reachF ops ops.size i j))
    | none => true)
structure GrowChk (ops : Array Oper) (n N : Nat) : Prop where
  pos : 0 < n
  le : n ≤ ops.size
  back : ∀ i o, ops[i]? = some o → ∀ e ∈ o.after, Region.binds .any e = true → e.on < i
  guard : ∀ i o, i < n → ops[i]? = some o → o.guard = none
  dst : ∀ i o, i < n → ops[i]? = some o → ∃ t, o.dst = some t ∧ t < N
  apart : ∀ i j o o' t, i < n → j < n → i ≠ j → ops[i]? = some o → ops[j]? = some o' → o.dst = some t → o'.dst ≠ some t
  tail : ∀ i j, n ≤ i → i < ops.size → j < i → reachF ops ops.size i j = true
theorem growChk {n N : Nat} (h : growB ops n N = true) : GrowChk ops n N := by
  simp only [growB, Bool.and_eq_true, decide_eq_true_eq, List.all_eq_true, List.mem_range] at h
  obtain ⟨⟨h1, h2⟩, h3⟩ := h
  have one : ∀ i j o o' t, i < n → j < i → ops[i]? = some o → ops[j]? = some o' → o.dst = some t → o'.dst ≠ some t := by
    intro i j o o' t hi hj ho ho' hd
    have := h3 i (by omega)
    rw [ho] at this
    simp only [Bool.and_eq_true, if_pos hi] at this
    have h4 := this.2.2
    rw [hd] at h4
    simp only [Bool.and_eq_true, List.all_eq_true, List.mem_range] at h4
    have h5 := h4.2 j hj
    rw [ho'] at h5
    simpa using h5
  refine ⟨h1, h2, fun i o ho e he hb => ?_, fun i o hi ho => ?_, fun i o hi ho => ?_, fun i j o o' t hi hj hij ho ho' hd => ?_, fun i j hi his hj => ?_⟩
  · have := h3 i (Array.getElem?_eq_some_iff.1 ho).1
    rw [ho] at this
    simp only [Bool.and_eq_true, List.all_eq_true] at this
    have h4 := this.1 e (by simpa using he)
    rw [hb] at h4
    simpa using h4
  · have := h3 i (by omega)
    rw [ho] at this
    simp only [Bool.and_eq_true, if_pos hi] at this
    have h4 := this.2.1
    cases hg : o.guard with
    | none => rfl
    | some g => rw [hg] at h4; cases h4
  · have := h3 i (by omega)
    rw [ho] at this
    simp only [Bool.and_eq_true, if_pos hi] at this
    have h4 := this.2.2
    cases hd : o.dst with
    | none => rw [hd] at h4; cases h4
    | some t =>
      rw [hd] at h4
      simp only [Bool.and_eq_true, decide_eq_true_eq] at h4
      exact ⟨t, rfl, h4.1⟩
  · rcases Nat.lt_or_gt_of_ne hij with h | h
    · intro hd'
      exact one j i o' o t hj h ho' ho hd' hd
    · exact one i j o o' t hi h ho ho' hd
  · have := h3 i his
    cases ho : ops[i]? with
    | none => exact absurd (Array.getElem?_eq_none_iff.1 ho) (by omega)
    | some o =>
      rw [ho] at this
      simp only [Bool.and_eq_true, if_neg (show ¬ i < n by omega), List.all_eq_true, List.mem_range] at this
      exact this.2 j hj
/-- the frame but for the places of the first n operations -/
def GrowFr (ops : Array Oper) (n : Nat) (a a' : Act) : Prop := a'.defers = a.defers ∧ a'.tmps.size = a.tmps.size ∧ ∀ t, (∀ i o, i < n → ops[i]? = some o → o.dst ≠ some t) → a'.tmps.getD t undef = a.tmps.getD t undef
theorem getD_put_other {a : Act} {t t' : Nat} {v : Value} (h : t ≠ t') : (a.put (some t) v).tmps.getD t' undef = a.tmps.getD t' undef := by
  simp [Act.put, Array.getD_eq_getD_getElem?, Array.getElem?_setIfInBounds_ne h]
theorem getD_put_same {a : Act} {t : Nat} {v : Value} (h : t < a.tmps.size) : (a.put (some t) v).tmps.getD t undef = v := by
  simp [Act.put, Array.getD_eq_getD_getElem?, h]
/-- A region whose first n operations only make memory: each yields a value with a property that growth keeps, its data in blocks that were not there before; the rest is walked in the order of the text. -/
theorem wp_region_grow {id : Nat} {a : Act} {w : World} (n N : Nat) (hm : P.follows .mixedOrders = true) (hB : growB ops n N = true) (hN : a.tmps.size = N)
    (V : Nat → Value → Nat → Nat → World → Prop)
    (stab : ∀ i v s t w' w'', V i v s t w' → Below w'.heap.size w' w'' → V i v s t w'')
    (hs : ∀ i o, i < n → ops[i]? = some o → ∀ a' w', Below w.heap.size w w' → GrowFr ops n a a' →
      (∀ e ∈ o.after, Region.binds .any e = true → ∀ o' d, ops[e.on]? = some o' → o'.dst = some d → ∃ s t, V e.on (a'.tmps.getD d undef) s t w') →
      o.wp P a' w' (fun a'' w'' => ∃ v s t, a'' = a'.put o.dst v ∧ Below w'.heap.size w' w'' ∧ w'.heap.size ≤ s ∧ t ≤ w''.heap.size ∧ V i v s t w'') Q)
    (he : ∀ a' w' (s t : Nat → Nat), Below w.heap.size w w' → GrowFr ops n a a' → (∀ i o d, i < n → ops[i]? = some o → o.dst = some d → w.heap.size ≤ s i ∧ t i ≤ w'.heap.size ∧ V i (a'.tmps.getD d undef) (s i) (t i) w') →
      (∀ i j, i < n → j < n → i ≠ j → t i ≤ s j ∨ t j ≤ s i) → wpList P ops Q (ops.toList.drop n) a' w') :
    (Code.region id ops true).wp P Q a w := by
  have K := growChk hB
  let G : (Nat → Bool) → Act → World → Prop := fun d a' w' => ∃ s t : Nat → Nat, Below w.heap.size w w' ∧ GrowFr ops n a a' ∧ (∀ i o dd, i < n → d i = true → ops[i]? = some o → o.dst = some dd → w.heap.size ≤ s i ∧ t i ≤ w'.heap.size ∧ V i (a'.tmps.getD dd undef) (s i) (t i) w') ∧
    ∀ i j, i < n → j < n → d i = true → d j = true → i ≠ j → t i ≤ s j ∨ t j ≤ s i
  refine wp_region_inv hm (fun d a' w' => ((∃ j, j < n ∧ d j = false) ∧ (∀ j, n ≤ j → d j = false) ∧ G d a' w') ∨ ∃ m, (∀ j, d j = true ↔ j < n + m) ∧ wpList P ops Q (ops.toList.drop (n + m)) a' w') K.back ?_ ?_ ?_
  · exact .inl ⟨⟨0, K.pos, rfl⟩, fun _ _ => rfl, fun _ => 0, fun _ => 0, ⟨rfl, rfl, rfl, Nat.le_refl _, fun _ _ => rfl⟩, ⟨rfl, rfl, fun _ _ => rfl⟩, ⟨fun i o t _ h => (by cases h), fun i j _ _ h => (by cases h)⟩⟩
  · intro d a' w' i o ho hd hdeps hcl hbig hI
    have hi := (Array.getElem?_eq_some_iff.1 ho).1
    unfold wpOp
    rw [ho]
    dsimp only
    by_cases hin : i < n
    · rcases hI with ⟨_, htl, s, t, hC', hF, hV, hD⟩ | ⟨m, hm', _⟩
      · obtain ⟨ti, hti, htN⟩ := K.dst i o hin ho
        rw [if_pos (by simp [Region.wanted, K.guard i o hin ho])]
        refine .inl (Oper.wp_mono ?_ (hs i o hin ho a' w' hC' hF (fun e he' hb o' dd ho' ht => ⟨_, _, (hV e.on o' dd (Nat.lt_trans (K.back i o ho e he' hb) hin) (hdeps e he' hb) ho' ht).2.2⟩)))
        rintro a'' w'' ⟨v, s0, t0, rfl, hR, hs0, ht0, hVi⟩
        rw [hti]
        have hF' : GrowFr ops n a (a'.put (some ti) v) := by
          refine ⟨hF.1, by simp [Act.put, hF.2.1], fun t ht => ?_⟩
          rw [getD_put_other (by rintro rfl; exact ht i o hin ho hti)]
          exact hF.2.2 t ht
        have hC'' : Below w.heap.size w w'' := hC'.trans (hR.mono hC'.size)
        have hV' : ∀ k o' dd, k < n → (if k = i then true else d k) = true → ops[k]? = some o' → o'.dst = some dd → w.heap.size ≤ (if k = i then s0 else s k) ∧ (if k = i then t0 else t k) ≤ w''.heap.size ∧ V k ((a'.put (some ti) v).tmps.getD dd undef) (if k = i then s0 else s k) (if k = i then t0 else t k) w'' := by
          intro k o' dd hk hdk ho' ht
          by_cases e : k = i
          · subst e
            rw [ho] at ho'; cases ho'
            rw [hti] at ht; cases ht
            simp only [if_true]
            rw [getD_put_same (by rw [hF.2.1, hN]; exact htN)]; exact ⟨Nat.le_trans hC'.size hs0, ht0, hVi⟩
          · rw [if_neg e] at hdk
            simp only [if_neg e]
            rw [getD_put_other (by rintro rfl; exact K.apart i k o o' ti hin hk (fun h => e h.symm) ho ho' hti ht)]
            obtain ⟨q1, q2, q3⟩ := hV k o' dd hk hdk ho' ht
            exact ⟨q1, Nat.le_trans q2 hR.size, stab _ _ _ _ _ _ q3 hR⟩
        have hD' : ∀ k l, k < n → l < n → (if k = i then true else d k) = true → (if l = i then true else d l) = true → k ≠ l → (if k = i then t0 else t k) ≤ (if l = i then s0 else s l) ∨ (if l = i then t0 else t l) ≤ (if k = i then s0 else s k) := by
          intro k l hk hl hdk hdl hkl
          by_cases e : k = i
          · have e' : l ≠ i := fun h => hkl (e.trans h.symm)
            simp only [if_pos e, if_neg e'] at hdl ⊢
            have hsz : l < ops.size := Nat.lt_of_lt_of_le hl K.le
            obtain ⟨dd, hdd, _⟩ := K.dst l ops[l] hl (by simp [hsz])
            have := (hV l ops[l] dd hl hdl (by simp [hsz]) hdd).2.1
            omega
          · by_cases e' : l = i
            · simp only [if_pos e', if_neg e] at hdk ⊢
              have hsz : k < ops.size := Nat.lt_of_lt_of_le hk K.le
              obtain ⟨dd, hdd, _⟩ := K.dst k ops[k] hk (by simp [hsz])
              have := (hV k ops[k] dd hk hdk (by simp [hsz]) hdd).2.1
              omega
            · simp only [if_neg e, if_neg e'] at hdk hdl ⊢
              exact hD k l hk hl hdk hdl hkl
        by_cases hall : ∃ j, j < n ∧ (if j = i then true else d j) = false
        · exact .inl ⟨hall, fun j hj => by rw [if_neg (by omega)]; exact htl j hj, _, _, hC'', hF', hV', hD'⟩
        · have hyes : ∀ k, k < n → (if k = i then true else d k) = true := fun k hk => by
            cases hdk : (if k = i then true else d k) with
            | true => rfl
            | false => exact absurd ⟨k, hk, hdk⟩ hall
          refine .inr ⟨0, fun j => ⟨fun hj => ?_, fun hj => hyes j (by omega)⟩, he _ _ _ _ hC'' hF' (fun k o' dd hk ho' ht => hV' k o' dd hk (hyes k hk) ho' ht) (fun k l hk hl hkl => hD' k l hk hl (hyes k hk) (hyes l hl) hkl)⟩
          by_cases hjn : j < n
          · omega
          · rw [if_neg (by omega), htl j (by omega)] at hj; cases hj
      · have := (hm' i).2 (by omega)
        rw [hd] at this; cases this
    · have hdone : ∀ j, j < i → d j = true := fun j hj => reachF_done hcl _ i j (fun o' ho' => by rw [ho] at ho'; cases ho'; exact hdeps) (K.tail i j (by omega) hi hj)
      rcases hI with ⟨⟨j, hj, hdj⟩, _⟩ | ⟨m, hm', hw⟩
      · rw [hdone j (by omega)] at hdj; cases hdj
      · have him : i = n + m := by
          have h1 : ¬ i < n + m := fun h => by rw [(hm' i).2 h] at hd; cases hd
          have h2 : ¬ n + m < i := fun h => by have := (hm' (n + m)).1 (hdone _ h); omega
          omega
        subst him
        have hdrop : ops.toList.drop (n + m) = o :: ops.toList.drop (n + m + 1) := by
          rw [List.drop_eq_getElem_cons (by simpa using hi)]
          congr 1
          have := (Array.getElem?_eq_some_iff.1 ho).2
          simpa using this
        rw [hdrop] at hw
        unfold wpList at hw
        have hnext : ∀ a'' w'', wpList P ops Q (ops.toList.drop (n + m + 1)) a'' w'' → ((∃ j, j < n ∧ (if j = n + m then true else d j) = false) ∧ (∀ j, n ≤ j → (if j = n + m then true else d j) = false) ∧ G (fun j => if j = n + m then true else d j) a'' w'') ∨ ∃ m', (∀ j, (if j = n + m then true else d j) = true ↔ j < n + m') ∧ wpList P ops Q (ops.toList.drop (n + m')) a'' w'' := by
          intro a'' w'' h
          refine .inr ⟨m + 1, fun j => ?_, by rw [← Nat.add_assoc]; exact h⟩
          by_cases e : j = n + m
          · rw [if_pos e]; simp; omega
          · rw [if_neg e, hm' j]; omega
        by_cases hwt : Region.wanted o (yielded ops a'.tmps) = true
        · rw [if_pos hwt] at hw ⊢
          exact hw.imp (Oper.wp_mono hnext) (fun h => h)
        · rw [if_neg hwt] at hw ⊢
          exact hnext _ _ hw
  · intro d a' w' hall hbig hI
    rcases hI with ⟨⟨j, hj, hdj⟩, _⟩ | ⟨m, hm', hw⟩
    · rw [hall j (Nat.lt_of_lt_of_le hj K.le)] at hdj; cases hdj
    · have h1 : ops.size ≤ n + m := by
        by_cases h : ops.size ≤ n + m
        · exact h
        · have := (hm' (n + m)).1 (hall _ (by omega)); omega
      rw [List.drop_eq_nil_of_le (by simpa using h1)] at hw
      exact hw
/-- the value in the place of operation j -/
def valAt (ops : Array Oper) (a : Act) (j : Nat) : Value := match ops[j]? with
  | some o => (match o.dst with | some t => a.tmps.getD t undef | none => undef)
  | none => undef
theorem valAt_of {a : Act} {j t : Nat} {o : Oper} (h : ops[j]? = some o) (ht : o.dst = some t) : valAt ops a j = a.tmps.getD t undef := by simp [valAt, h, ht]
/-- The same with links between the values (a build of parts). A region whose first n operations only make memory: each yields a value with a property that growth keeps, its data in blocks that were not there before; the rest is walked in the order of the text. -/
theorem wp_region_growL {id : Nat} {a : Act} {w : World} (n N : Nat) (hm : P.follows .mixedOrders = true) (hB : growB ops n N = true) (hN : a.tmps.size = N)
    (V : Nat → Value → Nat → Nat → World → Prop) (L : Nat → (Nat → Value) → Prop)
    (hL : ∀ i o f f', ops[i]? = some o → L i f → f' i = f i → (∀ e ∈ o.after, Region.binds .any e = true → f' e.on = f e.on) → L i f')
    (stab : ∀ i v s t w' w'', V i v s t w' → Below w'.heap.size w' w'' → V i v s t w'')
    (hs : ∀ i o, i < n → ops[i]? = some o → ∀ a' w', Below w.heap.size w w' → GrowFr ops n a a' →
      (∀ e ∈ o.after, Region.binds .any e = true → ∀ o' d, ops[e.on]? = some o' → o'.dst = some d → ∃ s t, V e.on (a'.tmps.getD d undef) s t w') →
      o.wp P a' w' (fun a'' w'' => ∃ v s t, a'' = a'.put o.dst v ∧ Below w'.heap.size w' w'' ∧ w'.heap.size ≤ s ∧ t ≤ w''.heap.size ∧ V i v s t w'' ∧ ∀ f : Nat → Value, f i = v → (∀ e ∈ o.after, Region.binds .any e = true → f e.on = valAt ops a' e.on) → L i f) Q)
    (he : ∀ a' w' (s t : Nat → Nat), Below w.heap.size w w' → GrowFr ops n a a' → (∀ i o d, i < n → ops[i]? = some o → o.dst = some d → w.heap.size ≤ s i ∧ t i ≤ w'.heap.size ∧ V i (a'.tmps.getD d undef) (s i) (t i) w') →
      (∀ i j, i < n → j < n → i ≠ j → t i ≤ s j ∨ t j ≤ s i) → (∀ i, i < n → L i (valAt ops a')) → wpList P ops Q (ops.toList.drop n) a' w') :
    (Code.region id ops true).wp P Q a w := by
  have K := growChk hB
  let G : (Nat → Bool) → Act → World → Prop := fun d a' w' => ∃ s t : Nat → Nat, Below w.heap.size w w' ∧ GrowFr ops n a a' ∧ (∀ i o dd, i < n → d i = true → ops[i]? = some o → o.dst = some dd → w.heap.size ≤ s i ∧ t i ≤ w'.heap.size ∧ V i (a'.tmps.getD dd undef) (s i) (t i) w') ∧
    (∀ i j, i < n → j < n → d i = true → d j = true → i ≠ j → t i ≤ s j ∨ t j ≤ s i) ∧ ∀ i, i < n → d i = true → L i (valAt ops a')
  refine wp_region_inv hm (fun d a' w' => ((∃ j, j < n ∧ d j = false) ∧ (∀ j, n ≤ j → d j = false) ∧ G d a' w') ∨ ∃ m, (∀ j, d j = true ↔ j < n + m) ∧ wpList P ops Q (ops.toList.drop (n + m)) a' w') K.back ?_ ?_ ?_
  · exact .inl ⟨⟨0, K.pos, rfl⟩, fun _ _ => rfl, fun _ => 0, fun _ => 0, ⟨rfl, rfl, rfl, Nat.le_refl _, fun _ _ => rfl⟩, ⟨rfl, rfl, fun _ _ => rfl⟩, ⟨fun i o t _ h => (by cases h), fun i j _ _ h => (by cases h), fun i _ h => (by cases h)⟩⟩
  · intro d a' w' i o ho hd hdeps hcl hbig hI
    have hi := (Array.getElem?_eq_some_iff.1 ho).1
    unfold wpOp
    rw [ho]
    dsimp only
    by_cases hin : i < n
    · rcases hI with ⟨_, htl, s, t, hC', hF, hV, hD, hLL⟩ | ⟨m, hm', _⟩
      · obtain ⟨ti, hti, htN⟩ := K.dst i o hin ho
        rw [if_pos (by simp [Region.wanted, K.guard i o hin ho])]
        refine .inl (Oper.wp_mono ?_ (hs i o hin ho a' w' hC' hF (fun e he' hb o' dd ho' ht => ⟨_, _, (hV e.on o' dd (Nat.lt_trans (K.back i o ho e he' hb) hin) (hdeps e he' hb) ho' ht).2.2⟩)))
        rintro a'' w'' ⟨v, s0, t0, rfl, hR, hs0, ht0, hVi, hLi⟩
        rw [hti]
        have hF' : GrowFr ops n a (a'.put (some ti) v) := by
          refine ⟨hF.1, by simp [Act.put, hF.2.1], fun t ht => ?_⟩
          rw [getD_put_other (by rintro rfl; exact ht i o hin ho hti)]
          exact hF.2.2 t ht
        have hC'' : Below w.heap.size w w'' := hC'.trans (hR.mono hC'.size)
        have hV' : ∀ k o' dd, k < n → (if k = i then true else d k) = true → ops[k]? = some o' → o'.dst = some dd → w.heap.size ≤ (if k = i then s0 else s k) ∧ (if k = i then t0 else t k) ≤ w''.heap.size ∧ V k ((a'.put (some ti) v).tmps.getD dd undef) (if k = i then s0 else s k) (if k = i then t0 else t k) w'' := by
          intro k o' dd hk hdk ho' ht
          by_cases e : k = i
          · subst e
            rw [ho] at ho'; cases ho'
            rw [hti] at ht; cases ht
            simp only [if_true]
            rw [getD_put_same (by rw [hF.2.1, hN]; exact htN)]; exact ⟨Nat.le_trans hC'.size hs0, ht0, hVi⟩
          · rw [if_neg e] at hdk
            simp only [if_neg e]
            rw [getD_put_other (by rintro rfl; exact K.apart i k o o' ti hin hk (fun h => e h.symm) ho ho' hti ht)]
            obtain ⟨q1, q2, q3⟩ := hV k o' dd hk hdk ho' ht
            exact ⟨q1, Nat.le_trans q2 hR.size, stab _ _ _ _ _ _ q3 hR⟩
        have hD' : ∀ k l, k < n → l < n → (if k = i then true else d k) = true → (if l = i then true else d l) = true → k ≠ l → (if k = i then t0 else t k) ≤ (if l = i then s0 else s l) ∨ (if l = i then t0 else t l) ≤ (if k = i then s0 else s k) := by
          intro k l hk hl hdk hdl hkl
          by_cases e : k = i
          · have e' : l ≠ i := fun h => hkl (e.trans h.symm)
            simp only [if_pos e, if_neg e'] at hdl ⊢
            have hsz : l < ops.size := Nat.lt_of_lt_of_le hl K.le
            obtain ⟨dd, hdd, _⟩ := K.dst l ops[l] hl (by simp [hsz])
            have := (hV l ops[l] dd hl hdl (by simp [hsz]) hdd).2.1
            omega
          · by_cases e' : l = i
            · simp only [if_pos e', if_neg e] at hdk ⊢
              have hsz : k < ops.size := Nat.lt_of_lt_of_le hk K.le
              obtain ⟨dd, hdd, _⟩ := K.dst k ops[k] hk (by simp [hsz])
              have := (hV k ops[k] dd hk hdk (by simp [hsz]) hdd).2.1
              omega
            · simp only [if_neg e, if_neg e'] at hdk hdl ⊢
              exact hD k l hk hl hdk hdl hkl
        have hvo : ∀ k, k < n → k ≠ i → valAt ops (a'.put (some ti) v) k = valAt ops a' k := by
          intro k hk e
          have hsz : k < ops.size := Nat.lt_of_lt_of_le hk K.le
          obtain ⟨dd, hdd, _⟩ := K.dst k ops[k] hk (by simp [hsz])
          rw [valAt_of (o := ops[k]) (by simp [hsz]) hdd, valAt_of (o := ops[k]) (by simp [hsz]) hdd, getD_put_other (by rintro rfl; exact K.apart i k o ops[k] ti hin hk (fun h => e h.symm) ho (by simp [hsz]) hti hdd)]
        have hvi : valAt ops (a'.put (some ti) v) i = v := by rw [valAt_of ho hti, getD_put_same (by rw [hF.2.1, hN]; exact htN)]
        have hL' : ∀ k, k < n → (if k = i then true else d k) = true → L k (valAt ops (a'.put (some ti) v)) := by
          intro k hk hdk
          by_cases e : k = i
          · subst e
            exact hLi _ hvi (fun e he' hb => hvo _ (Nat.lt_trans (K.back k o ho e he' hb) hk) (fun h => by have := K.back k o ho e he' hb; omega))
          · rw [if_neg e] at hdk
            have hsz : k < ops.size := Nat.lt_of_lt_of_le hk K.le
            refine hL k ops[k] _ _ (by simp [hsz]) (hLL k hk hdk) (hvo k hk e) (fun e' he' hb => hvo _ (Nat.lt_trans (K.back k ops[k] (by simp [hsz]) e' he' hb) hk) (fun h => ?_))
            have := hcl k ops[k] (by simp [hsz]) hdk e' he' hb
            rw [h, hd] at this; cases this
        by_cases hall : ∃ j, j < n ∧ (if j = i then true else d j) = false
        · exact .inl ⟨hall, fun j hj => by rw [if_neg (by omega)]; exact htl j hj, _, _, hC'', hF', hV', hD', hL'⟩
        · have hyes : ∀ k, k < n → (if k = i then true else d k) = true := fun k hk => by
            cases hdk : (if k = i then true else d k) with
            | true => rfl
            | false => exact absurd ⟨k, hk, hdk⟩ hall
          refine .inr ⟨0, fun j => ⟨fun hj => ?_, fun hj => hyes j (by omega)⟩, he _ _ _ _ hC'' hF' (fun k o' dd hk ho' ht => hV' k o' dd hk (hyes k hk) ho' ht) (fun k l hk hl hkl => hD' k l hk hl (hyes k hk) (hyes l hl) hkl) (fun k hk => hL' k hk (hyes k hk))⟩
          by_cases hjn : j < n
          · omega
          · rw [if_neg (by omega), htl j (by omega)] at hj; cases hj
      · have := (hm' i).2 (by omega)
        rw [hd] at this; cases this
    · have hdone : ∀ j, j < i → d j = true := fun j hj => reachF_done hcl _ i j (fun o' ho' => by rw [ho] at ho'; cases ho'; exact hdeps) (K.tail i j (by omega) hi hj)
      rcases hI with ⟨⟨j, hj, hdj⟩, _⟩ | ⟨m, hm', hw⟩
      · rw [hdone j (by omega)] at hdj; cases hdj
      · have him : i = n + m := by
          have h1 : ¬ i < n + m := fun h => by rw [(hm' i).2 h] at hd; cases hd
          have h2 : ¬ n + m < i := fun h => by have := (hm' (n + m)).1 (hdone _ h); omega
          omega
        subst him
        have hdrop : ops.toList.drop (n + m) = o :: ops.toList.drop (n + m + 1) := by
          rw [List.drop_eq_getElem_cons (by simpa using hi)]
          congr 1
          have := (Array.getElem?_eq_some_iff.1 ho).2
          simpa using this
        rw [hdrop] at hw
        unfold wpList at hw
        have hnext : ∀ a'' w'', wpList P ops Q (ops.toList.drop (n + m + 1)) a'' w'' → ((∃ j, j < n ∧ (if j = n + m then true else d j) = false) ∧ (∀ j, n ≤ j → (if j = n + m then true else d j) = false) ∧ G (fun j => if j = n + m then true else d j) a'' w'') ∨ ∃ m', (∀ j, (if j = n + m then true else d j) = true ↔ j < n + m') ∧ wpList P ops Q (ops.toList.drop (n + m')) a'' w'' := by
          intro a'' w'' h
          refine .inr ⟨m + 1, fun j => ?_, by rw [← Nat.add_assoc]; exact h⟩
          by_cases e : j = n + m
          · rw [if_pos e]; simp; omega
          · rw [if_neg e, hm' j]; omega
        by_cases hwt : Region.wanted o (yielded ops a'.tmps) = true
        · rw [if_pos hwt] at hw ⊢
          exact hw.imp (Oper.wp_mono hnext) (fun h => h)
        · rw [if_neg hwt] at hw ⊢
          exact hnext _ _ hw
  · intro d a' w' hall hbig hI
    rcases hI with ⟨⟨j, hj, hdj⟩, _⟩ | ⟨m, hm', hw⟩
    · rw [hall j (Nat.lt_of_lt_of_le hj K.le)] at hdj; cases hdj
    · have h1 : ops.size ≤ n + m := by
        by_cases h : ops.size ≤ n + m
        · exact h
        · have := (hm' (n + m)).1 (hall _ (by omega)); omega
      rw [List.drop_eq_nil_of_le (by simpa using h1)] at hw
      exact hw
theorem evTmp {a' : Act} {t : Nat} {v : Value} (h : a'.eval (.tmp t) = v) : a'.tmps[t]?.getD undef = v := by rw [← h]; simp [Act.eval, Array.getD_eq_getD_getElem?]
def notDstB (ops : Array Oper) (n t : Nat) : Bool := (List.range n).all fun i => match ops[i]? with | some o => decide (o.dst ≠ some t) | none => true
theorem GrowFr.at {n : Nat} {a a' : Act} (h : GrowFr ops n a a') (t : Nat) (hb : notDstB ops n t = true) : a'.tmps.getD t undef = a.tmps.getD t undef := by
  refine h.2.2 t fun i o hi ho => ?_
  simp only [notDstB, List.all_eq_true, List.mem_range] at hb
  have := hb i hi
  rw [ho] at this
  simpa using this
theorem GrowFr.ev {n : Nat} {a a' : Act} (h : GrowFr ops n a a') (t : Nat) (hb : notDstB ops n t = true) {v : Value} (hv : a.tmps.getD t undef = v) : a'.eval (.tmp t) = v := by
  rw [← hv]; exact h.at t hb
/-- one step of such a region: an operation that only looks, or makes memory, by itself -/
theorem stepG {o : Oper} {a' : Act} {w' w'' : World} {v : Value} {s t i : Nat} {V : Nat → Value → Nat → Nat → World → Prop} (hr : (execOp a'.eval o).run P w' = .ok (.value v) w'') (hb : Below w'.heap.size w' w'') (h1 : w'.heap.size ≤ s) (h2 : t ≤ w''.heap.size) (hv : V i v s t w'') :
    o.wp P a' w' (fun a'' w'' => ∃ v s t, a'' = a'.put o.dst v ∧ Below w'.heap.size w' w'' ∧ w'.heap.size ≤ s ∧ t ≤ w''.heap.size ∧ V i v s t w'') Q := by
  unfold Oper.wp
  rw [hr]
  exact ⟨v, s, t, rfl, hb, h1, h2, hv⟩
theorem stepGL {o : Oper} {a' : Act} {w' w'' : World} {v : Value} {s t i : Nat} {V : Nat → Value → Nat → Nat → World → Prop} {H : Value → Prop} (hr : (execOp a'.eval o).run P w' = .ok (.value v) w'') (hb : Below w'.heap.size w' w'') (h1 : w'.heap.size ≤ s) (h2 : t ≤ w''.heap.size) (hv : V i v s t w'') (hH : H v) :
    o.wp P a' w' (fun a'' w'' => ∃ v s t, a'' = a'.put o.dst v ∧ Below w'.heap.size w' w'' ∧ w'.heap.size ≤ s ∧ t ≤ w''.heap.size ∧ V i v s t w'' ∧ H v) Q := by
  unfold Oper.wp
  rw [hr]
  exact ⟨v, s, t, rfl, hb, h1, h2, hv, hH⟩
theorem stepGLC {o : Oper} {a' : Act} {w' : World} {i : Nat} {V : Nat → Value → Nat → Nat → World → Prop} {H : Value → Prop} {f : FuncId} {args : Array Value} (hr : (execOp a'.eval o).run P w' = .ok (.enter f args) w')
    (hc : Calls P f args w' fun e w'' => ∃ v s t, e = .returned v ∧ Below w'.heap.size w' w'' ∧ w'.heap.size ≤ s ∧ t ≤ w''.heap.size ∧ V i v s t w'' ∧ H v) :
    o.wp P a' w' (fun a'' w'' => ∃ v s t, a'' = a'.put o.dst v ∧ Below w'.heap.size w' w'' ∧ w'.heap.size ≤ s ∧ t ≤ w''.heap.size ∧ V i v s t w'' ∧ H v) Q := by
  unfold Oper.wp
  rw [hr]
  refine hc.mono ?_
  rintro e w'' ⟨v, s, t, rfl, h⟩
  exact ⟨v, s, t, rfl, h⟩
/-- the same where the operation calls -/
theorem stepGC {o : Oper} {a' : Act} {w' : World} {i : Nat} {V : Nat → Value → Nat → Nat → World → Prop} {f : FuncId} {args : Array Value} (hr : (execOp a'.eval o).run P w' = .ok (.enter f args) w')
    (hc : Calls P f args w' fun e w'' => ∃ v s t, e = .returned v ∧ Below w'.heap.size w' w'' ∧ w'.heap.size ≤ s ∧ t ≤ w''.heap.size ∧ V i v s t w'') :
    o.wp P a' w' (fun a'' w'' => ∃ v s t, a'' = a'.put o.dst v ∧ Below w'.heap.size w' w'' ∧ w'.heap.size ≤ s ∧ t ≤ w''.heap.size ∧ V i v s t w'') Q := by
  unfold Oper.wp
  rw [hr]
  refine hc.mono ?_
  rintro e w'' ⟨v, s, t, rfl, h⟩
  exact ⟨v, s, t, rfl, h⟩
end
end Go.Proofs.Ytalfldflnacpeaa
