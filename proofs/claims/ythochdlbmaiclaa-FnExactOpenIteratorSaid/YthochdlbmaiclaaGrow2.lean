/- Regions that draw their order, by invariants: the same rule as wp_region_grow where the tail is any list of operations. -/
import Derived.Test.YthochdlbmaiclaaGrow
namespace Go.Proofs.Ythochdlbmaiclaa
set_option linter.unusedSimpArgs false
set_option linter.unusedVariables false
open Go.RowKit
section
variable {P : Program} {ops : Array Oper} {Q : Exit → Act → World → Prop}
/-- an operation of the head: one that the tail's list does not hold -/
def Hd (ops : Array Oper) (T : List Nat) (i : Nat) : Prop := i < ops.size ∧ T.contains i = false
instance (ops : Array Oper) (T : List Nat) (i : Nat) : Decidable (Hd ops T i) := by unfold Hd; infer_instance
/-- what is checked: the head's operations have no guard, wait for the head alone and have places of their own below N; edges go back; each operation of the tail waits for the whole head and for those before it in the list, which goes up -/
def growTB (ops : Array Oper) (T : List Nat) (N : Nat) : Bool :=
  (List.range ops.size).any (fun i => !T.contains i) && (List.range ops.size).all (fun i => match ops[i]? with
    | some o => o.after.toList.all (fun e => !Region.binds .any e || (decide (e.on < i) && (T.contains i || !T.contains e.on))) &&
        (T.contains i || (o.guard.isNone && (match o.dst with | some t => decide (t < N) && (List.range i).all (fun j => T.contains j || match ops[j]? with | some o' => decide (o'.dst ≠ some t) | none => true) | none => false)))
    | none => true) &&
  (List.range T.length).all (fun m => decide (T.getD m 0 < ops.size) && (List.range ops.size).all (fun j => T.contains j || reachF ops ops.size (T.getD m 0) j) && (List.range m).all (fun q => decide (T.getD q 0 < T.getD m 0) && reachF ops ops.size (T.getD m 0) (T.getD q 0)))
structure GrowTChk (ops : Array Oper) (T : List Nat) (N : Nat) : Prop where
  pos : ∃ i, Hd ops T i
  back : ∀ i o, ops[i]? = some o → ∀ e ∈ o.after, Region.binds .any e = true → e.on < i
  hd : ∀ i o, Hd ops T i → ops[i]? = some o → ∀ e ∈ o.after, Region.binds .any e = true → Hd ops T e.on
  guard : ∀ i o, Hd ops T i → ops[i]? = some o → o.guard = none
  dst : ∀ i o, Hd ops T i → ops[i]? = some o → ∃ t, o.dst = some t ∧ t < N
  apart : ∀ i j o o' t, Hd ops T i → Hd ops T j → i ≠ j → ops[i]? = some o → ops[j]? = some o' → o.dst = some t → o'.dst ≠ some t
  mem : ∀ i, i < ops.size → ¬ Hd ops T i → ∃ p : Nat, T[p]? = some i
  lt : ∀ m i : Nat, T[m]? = some i → i < ops.size
  tail : ∀ p i : Nat, T[p]? = some i → ∀ j, Hd ops T j → reachF ops ops.size i j = true
  tail2 : ∀ p q i j : Nat, T[p]? = some i → T[q]? = some j → q < p → j < i ∧ reachF ops ops.size i j = true
theorem growTChk {T : List Nat} {N : Nat} (h : growTB ops T N = true) : GrowTChk ops T N := by
  unfold growTB at h
  simp only [Bool.and_eq_true] at h
  obtain ⟨⟨h1, h3⟩, h5⟩ := h
  simp only [List.any_eq_true, List.mem_range, Bool.not_eq_true'] at h1
  simp only [List.all_eq_true, List.mem_range] at h3
  simp only [List.all_eq_true, List.mem_range, Bool.and_eq_true, decide_eq_true_eq, Bool.or_eq_true] at h5
  have edge : ∀ i o, ops[i]? = some o → ∀ e ∈ o.after, Region.binds .any e = true → e.on < i ∧ (T.contains i = true ∨ T.contains e.on = false) := by
    intro i o ho e he hb
    have := h3 i (Array.getElem?_eq_some_iff.1 ho).1
    rw [ho] at this
    simp only [Bool.and_eq_true] at this
    have h4 := List.all_eq_true.1 this.1 e (by simpa using he)
    rw [hb] at h4
    simpa using h4
  have own : ∀ i o, Hd ops T i → ops[i]? = some o → o.guard = none ∧ ∃ t, o.dst = some t ∧ t < N ∧ ∀ j o', j < i → Hd ops T j → ops[j]? = some o' → o'.dst ≠ some t := by
    intro i o hi ho
    have := h3 i hi.1
    rw [ho] at this
    simp only [Bool.and_eq_true] at this
    have h4 := this.2
    rw [hi.2] at h4
    simp only [Bool.false_or, Bool.and_eq_true] at h4
    refine ⟨by simpa using h4.1, ?_⟩
    cases hd : o.dst with
    | none => rw [hd] at h4; cases h4.2
    | some t =>
      rw [hd] at h4
      simp only [Bool.and_eq_true, decide_eq_true_eq, List.all_eq_true, List.mem_range] at h4
      refine ⟨t, rfl, h4.2.1, fun j o' hj hh ho' => ?_⟩
      have h6 := h4.2.2 j hj
      rw [hh.2, ho'] at h6
      simpa using h6
  have gd : ∀ m i : Nat, T[m]? = some i → m < T.length ∧ T.getD m 0 = i := fun m i h => ⟨(List.getElem?_eq_some_iff.1 h).1, by simp [List.getD, h]⟩
  refine ⟨h1, fun i o ho e he hb => (edge i o ho e he hb).1, fun i o hi ho e he hb => ?_, fun i o hi ho => (own i o hi ho).1, fun i o hi ho => ?_, fun i j o o' t hi hj hij ho ho' hd => ?_, fun i hi hn => ?_, fun m i hm => ?_, fun p i hp j hj => ?_, fun p q i j hp hq hqp => ?_⟩
  · obtain ⟨q1, q2⟩ := edge i o ho e he hb
    refine ⟨Nat.lt_trans q1 hi.1, q2.resolve_left ?_⟩
    rw [hi.2]; simp
  · obtain ⟨_, t, q1, q2, _⟩ := own i o hi ho
    exact ⟨t, q1, q2⟩
  · rcases Nat.lt_or_gt_of_ne hij with h | h
    · obtain ⟨_, t', q1, _, q3⟩ := own j o' hj ho'
      intro hd'
      rw [hd'] at q1; cases q1
      exact q3 i o h hi ho hd
    · obtain ⟨_, t', q1, _, q3⟩ := own i o hi ho
      rw [hd] at q1; cases q1
      exact q3 j o' h hj ho'
  · have : T.contains i = true := by
      cases h : T.contains i with
      | true => rfl
      | false => exact absurd ⟨hi, h⟩ hn
    exact List.mem_iff_getElem?.1 (by simpa using this)
  · obtain ⟨q1, q2⟩ := gd m i hm
    have := (h5 m q1).1.1
    rwa [q2] at this
  · obtain ⟨q1, q2⟩ := gd p i hp
    have := ((h5 p q1).1.2 j hj.1).resolve_left (by rw [hj.2]; simp)
    rwa [q2] at this
  · obtain ⟨q1, q2⟩ := gd p i hp
    obtain ⟨_, q3⟩ := gd q j hq
    have := (h5 p q1).2 q hqp
    rwa [q2, q3] at this
/-- the frame but for the places of the head -/
def GrowFrT (ops : Array Oper) (T : List Nat) (a a' : Act) : Prop := a'.defers = a.defers ∧ a'.tmps.size = a.tmps.size ∧ ∀ t, (∀ i o, Hd ops T i → ops[i]? = some o → o.dst ≠ some t) → a'.tmps.getD t undef = a.tmps.getD t undef
/-- A region whose head only makes memory: each operation yields a value with a property that growth keeps, its data in blocks that were not there before; the tail is walked in the order of the text. -/
theorem wp_region_growT {id : Nat} {a : Act} {w : World} (T : List Nat) (N : Nat) (hm : P.follows .mixedOrders = true) (hB : growTB ops T N = true) (hN : a.tmps.size = N)
    (V : Nat → Value → Nat → Nat → World → Prop)
    (stab : ∀ i v s t w' w'', V i v s t w' → Below w'.heap.size w' w'' → V i v s t w'')
    (hs : ∀ i o, Hd ops T i → ops[i]? = some o → ∀ a' w', Below w.heap.size w w' → GrowFrT ops T a a' →
      (∀ e ∈ o.after, Region.binds .any e = true → ∀ o' d, ops[e.on]? = some o' → o'.dst = some d → ∃ s t, w.heap.size ≤ s ∧ t ≤ w'.heap.size ∧ V e.on (a'.tmps.getD d undef) s t w') →
      o.wp P a' w' (fun a'' w'' => ∃ v s t, a'' = a'.put o.dst v ∧ Below w'.heap.size w' w'' ∧ w'.heap.size ≤ s ∧ t ≤ w''.heap.size ∧ V i v s t w'') Q)
    (he : ∀ a' w' (s t : Nat → Nat), Below w.heap.size w w' → GrowFrT ops T a a' → (∀ i o d, Hd ops T i → ops[i]? = some o → o.dst = some d → w.heap.size ≤ s i ∧ t i ≤ w'.heap.size ∧ V i (a'.tmps.getD d undef) (s i) (t i) w') →
      (∀ i j, Hd ops T i → Hd ops T j → i ≠ j → t i ≤ s j ∨ t j ≤ s i) → wpList P ops Q (T.filterMap (ops[·]?)) a' w') :
    (Code.region id ops true).wp P Q a w := by
  have K := growTChk hB
  let G : (Nat → Bool) → Act → World → Prop := fun d a' w' => ∃ s t : Nat → Nat, Below w.heap.size w w' ∧ GrowFrT ops T a a' ∧ (∀ i o dd, Hd ops T i → d i = true → ops[i]? = some o → o.dst = some dd → w.heap.size ≤ s i ∧ t i ≤ w'.heap.size ∧ V i (a'.tmps.getD dd undef) (s i) (t i) w') ∧
    ∀ i j, Hd ops T i → Hd ops T j → d i = true → d j = true → i ≠ j → t i ≤ s j ∨ t j ≤ s i
  refine wp_region_inv hm (fun d a' w' => ((∃ j, Hd ops T j ∧ d j = false) ∧ (∀ j, ¬ Hd ops T j → d j = false) ∧ G d a' w') ∨ ∃ m, (∀ j, d j = true ↔ Hd ops T j ∨ ∃ q, q < m ∧ T[q]? = some j) ∧ wpList P ops Q ((T.drop m).filterMap (ops[·]?)) a' w') K.back ?_ ?_ ?_
  · exact .inl ⟨⟨K.pos.choose, K.pos.choose_spec, rfl⟩, fun _ _ => rfl, fun _ => 0, fun _ => 0, ⟨rfl, rfl, rfl, Nat.le_refl _, fun _ _ => rfl⟩, ⟨rfl, rfl, fun _ _ => rfl⟩, ⟨fun i o t _ h => (by cases h), fun i j _ _ h => (by cases h)⟩⟩
  · intro d a' w' i o ho hd hdeps hcl hbig hI
    have hi := (Array.getElem?_eq_some_iff.1 ho).1
    unfold wpOp
    rw [ho]
    dsimp only
    by_cases hin : Hd ops T i
    · rcases hI with ⟨_, htl, s, t, hC', hF, hV, hD⟩ | ⟨m, hm', _⟩
      · obtain ⟨ti, hti, htN⟩ := K.dst i o hin ho
        rw [if_pos (by simp [Region.wanted, K.guard i o hin ho])]
        refine .inl (Oper.wp_mono ?_ (hs i o hin ho a' w' hC' hF (fun e he' hb o' dd ho' ht => ⟨_, _, (hV e.on o' dd (K.hd i o hin ho e he' hb) (hdeps e he' hb) ho' ht)⟩)))
        rintro a'' w'' ⟨v, s0, t0, rfl, hR, hs0, ht0, hVi⟩
        rw [hti]
        have hF' : GrowFrT ops T a (a'.put (some ti) v) := by
          refine ⟨hF.1, by simp [Act.put, hF.2.1], fun t ht => ?_⟩
          rw [getD_put_other (by rintro rfl; exact ht i o hin ho hti)]
          exact hF.2.2 t ht
        have hC'' : Below w.heap.size w w'' := hC'.trans (hR.mono hC'.size)
        have hV' : ∀ k o' dd, Hd ops T k → (if k = i then true else d k) = true → ops[k]? = some o' → o'.dst = some dd → w.heap.size ≤ (if k = i then s0 else s k) ∧ (if k = i then t0 else t k) ≤ w''.heap.size ∧ V k ((a'.put (some ti) v).tmps.getD dd undef) (if k = i then s0 else s k) (if k = i then t0 else t k) w'' := by
          intro k o' dd hk hdk ho' ht
          by_cases e : k = i
          · subst e
            rw [ho] at ho'; cases ho'
            rw [hti] at ht; cases ht
            simp only [if_true]
            rw [getD_put_same (by rw [hF.2.1, hN]; exact htN)]; exact ⟨Nat.le_trans hC'.size hs0, ht0, hVi⟩
          · rw [if_neg e] at hdk
            simp only [if_neg e]
            rw [getD_put_other (by rintro rfl; exact K.apart i k o o' ti hin hk (fun h => e h.symm) ho ho' hti ht)]
            obtain ⟨q1, q2, q3⟩ := hV k o' dd hk hdk ho' ht
            exact ⟨q1, Nat.le_trans q2 hR.size, stab _ _ _ _ _ _ q3 hR⟩
        have hD' : ∀ k l, Hd ops T k → Hd ops T l → (if k = i then true else d k) = true → (if l = i then true else d l) = true → k ≠ l → (if k = i then t0 else t k) ≤ (if l = i then s0 else s l) ∨ (if l = i then t0 else t l) ≤ (if k = i then s0 else s k) := by
          intro k l hk hl hdk hdl hkl
          by_cases e : k = i
          · have e' : l ≠ i := fun h => hkl (e.trans h.symm)
            simp only [if_pos e, if_neg e'] at hdl ⊢
            have hsz : l < ops.size := hl.1
            obtain ⟨dd, hdd, _⟩ := K.dst l ops[l] hl (by simp [hsz])
            have := (hV l ops[l] dd hl hdl (by simp [hsz]) hdd).2.1
            omega
          · by_cases e' : l = i
            · simp only [if_pos e', if_neg e] at hdk ⊢
              have hsz : k < ops.size := hk.1
              obtain ⟨dd, hdd, _⟩ := K.dst k ops[k] hk (by simp [hsz])
              have := (hV k ops[k] dd hk hdk (by simp [hsz]) hdd).2.1
              omega
            · simp only [if_neg e, if_neg e'] at hdk hdl ⊢
              exact hD k l hk hl hdk hdl hkl
        by_cases hall : ∃ j, Hd ops T j ∧ (if j = i then true else d j) = false
        · exact .inl ⟨hall, fun j hj => by rw [if_neg (by rintro rfl; exact hj hin)]; exact htl j hj, _, _, hC'', hF', hV', hD'⟩
        · have hyes : ∀ k, Hd ops T k → (if k = i then true else d k) = true := fun k hk => by
            cases hdk : (if k = i then true else d k) with
            | true => rfl
            | false => exact absurd ⟨k, hk, hdk⟩ hall
          refine .inr ⟨0, fun j => ⟨fun hj => ?_, fun hj => hj.elim (hyes j) (fun ⟨q, hq, _⟩ => absurd hq (Nat.not_lt_zero q))⟩, he _ _ _ _ hC'' hF' (fun k o' dd hk ho' ht => hV' k o' dd hk (hyes k hk) ho' ht) (fun k l hk hl hkl => hD' k l hk hl (hyes k hk) (hyes l hl) hkl)⟩
          by_cases hjn : Hd ops T j
          · exact .inl hjn
          · rw [if_neg (by rintro rfl; exact hjn hin), htl j hjn] at hj; cases hj
      · have := (hm' i).2 (.inl hin)
        rw [hd] at this; cases this
    · obtain ⟨p, hp⟩ := K.mem i hi hin
      have hdone : ∀ j, Hd ops T j → d j = true := fun j hj => reachF_done hcl _ i j (fun o' ho' => by rw [ho] at ho'; cases ho'; exact hdeps) (K.tail p i hp j hj)
      have hdone2 : ∀ q j, q < p → T[q]? = some j → d j = true := fun q j hq hj => reachF_done hcl _ i j (fun o' ho' => by rw [ho] at ho'; cases ho'; exact hdeps) (K.tail2 p q i j hp hj hq).2
      rcases hI with ⟨⟨j, hj, hdj⟩, _⟩ | ⟨m, hm', hw⟩
      · rw [hdone j hj] at hdj; cases hdj
      · have hpl : p < T.length := (List.getElem?_eq_some_iff.1 hp).1
        have him : p = m := by
          have h1 : ¬ p < m := fun h => by rw [(hm' i).2 (.inr ⟨p, h, hp⟩)] at hd; cases hd
          have h2 : ¬ m < p := fun h => by
            have hml : m < T.length := by omega
            have hmj : T[m]? = some T[m] := by simp [hml]
            rcases (hm' T[m]).1 (hdone2 m _ h hmj) with h3 | ⟨q, hq, h3⟩
            · have := h3.2; simp at this
            · have := (K.tail2 m q _ _ hmj h3 hq).1; omega
          omega
        subst him
        have hdrop : (T.drop p).filterMap (ops[·]?) = o :: (T.drop (p + 1)).filterMap (ops[·]?) := by
          rw [List.drop_eq_getElem_cons hpl]
          have : T[p] = i := by have := (List.getElem?_eq_some_iff.1 hp).2; exact this
          rw [List.filterMap_cons, this, ho]
        rw [hdrop] at hw
        unfold wpList at hw
        have hnext : ∀ a'' w'', wpList P ops Q ((T.drop (p + 1)).filterMap (ops[·]?)) a'' w'' → ((∃ j, Hd ops T j ∧ (if j = i then true else d j) = false) ∧ (∀ j, ¬ Hd ops T j → (if j = i then true else d j) = false) ∧ G (fun j => if j = i then true else d j) a'' w'') ∨ ∃ m', (∀ j, (if j = i then true else d j) = true ↔ Hd ops T j ∨ ∃ q, q < m' ∧ T[q]? = some j) ∧ wpList P ops Q ((T.drop m').filterMap (ops[·]?)) a'' w'' := by
          intro a'' w'' h
          refine .inr ⟨p + 1, fun j => ?_, h⟩
          by_cases e : j = i
          · rw [if_pos e]; subst e; simp only [true_iff]; exact .inr ⟨p, Nat.lt_succ_self p, hp⟩
          · rw [if_neg e, hm' j]
            constructor
            · rintro (h | ⟨q, hq, h⟩)
              · exact .inl h
              · exact .inr ⟨q, by omega, h⟩
            · rintro (h6 | ⟨q, hq, h6⟩)
              · exact .inl h6
              · rcases Nat.lt_or_ge q p with h4 | h4
                · exact .inr ⟨q, h4, h6⟩
                · have : q = p := by omega
                  subst this
                  rw [hp] at h6; cases h6; exact absurd rfl e
        by_cases hwt : Region.wanted o (yielded ops a'.tmps) = true
        · rw [if_pos hwt] at hw ⊢
          exact hw.imp (Oper.wp_mono hnext) (fun h => h)
        · rw [if_neg hwt] at hw ⊢
          exact hnext _ _ hw
  · intro d a' w' hall hbig hI
    rcases hI with ⟨⟨j, hj, hdj⟩, _⟩ | ⟨m, hm', hw⟩
    · rw [hall j hj.1] at hdj; cases hdj
    · have h1 : T.length ≤ m := by
        by_cases h : T.length ≤ m
        · exact h
        · have hml : m < T.length := by omega
          have hmj : T[m]? = some T[m] := by simp [hml]
          rcases (hm' T[m]).1 (hall _ (K.lt m _ hmj)) with h3 | ⟨q, hq, h3⟩
          · have := h3.2; simp at this
          · have := (K.tail2 m q _ _ hmj h3 hq).1; omega
      rw [List.drop_eq_nil_of_le h1] at hw
      exact hw
def notDstTB (ops : Array Oper) (T : List Nat) (t : Nat) : Bool := (List.range ops.size).all fun i => T.contains i || match ops[i]? with | some o => decide (o.dst ≠ some t) | none => true
theorem GrowFrT.at {T : List Nat} {a a' : Act} (h : GrowFrT ops T a a') (t : Nat) (hb : notDstTB ops T t = true) : a'.tmps.getD t undef = a.tmps.getD t undef := by
  refine h.2.2 t fun i o hi ho => ?_
  simp only [notDstTB, List.all_eq_true, List.mem_range] at hb
  have := hb i hi.1
  rw [hi.2, ho] at this
  simpa using this
theorem GrowFrT.ev {T : List Nat} {a a' : Act} (h : GrowFrT ops T a a') (t : Nat) (hb : notDstTB ops T t = true) {v : Value} (hv : a.tmps.getD t undef = v) : a'.eval (.tmp t) = v := by
  rw [← hv]; exact h.at t hb
end
end Go.Proofs.Ythochdlbmaiclaa
