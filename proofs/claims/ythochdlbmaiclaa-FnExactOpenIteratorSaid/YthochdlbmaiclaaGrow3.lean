/- Regions that draw their order: a store of an append's result. The head reads and makes memory; then the append (m), then the store (z); operations of U (addresses) may come up at any time. -/
import Derived.Test.YthochdlbmaiclaaGrow2
namespace Go.Proofs.Ythochdlbmaiclaa
set_option linter.unusedSimpArgs false
set_option linter.unusedVariables false
open Go.RowKit
section
variable {P : Program} {ops : Array Oper} {Q : Exit → Act → World → Prop}
/-- what is checked: edges go back; no guards; places of their own below N but for z; the head waits for the head alone; m waits for the head, z for all -/
def midB (ops : Array Oper) (m z : Nat) (U : List Nat) (N : Nat) : Bool :=
  decide (m < ops.size) && decide (z < ops.size) && decide (m ≠ z) && !U.contains m && !U.contains z &&
  (List.range ops.size).all (fun i => match ops[i]? with
    | some o => o.after.toList.all (fun e => !Region.binds .any e || (decide (e.on < i) && ((m :: z :: U).contains i || !(m :: z :: U).contains e.on))) && o.guard.isNone &&
        (decide (i = z) || (match o.dst with | some t => decide (t < N) && (List.range i).all (fun j => decide (j = z) || match ops[j]? with | some o' => decide (o'.dst ≠ some t) | none => true) | none => false))
    | none => true) &&
  (List.range ops.size).all (fun j => ((m :: z :: U).contains j || reachF ops ops.size m j) && (decide (j = z) || reachF ops ops.size z j))
structure MidChk (ops : Array Oper) (m z : Nat) (U : List Nat) (N : Nat) : Prop where
  mlt : m < ops.size
  zlt : z < ops.size
  mz : m ≠ z
  mU : ¬ m ∈ U
  zU : ¬ z ∈ U
  back : ∀ i o, ops[i]? = some o → ∀ e ∈ o.after, Region.binds .any e = true → e.on < i
  hd : ∀ i o, Hd ops (m :: z :: U) i → ops[i]? = some o → ∀ e ∈ o.after, Region.binds .any e = true → Hd ops (m :: z :: U) e.on
  guard : ∀ (i : Nat) (o : Oper), ops[i]? = some o → o.guard = none
  dst : ∀ i o, i ≠ z → ops[i]? = some o → ∃ t, o.dst = some t ∧ t < N
  apart : ∀ i j o o' t, i ≠ z → j ≠ z → i ≠ j → ops[i]? = some o → ops[j]? = some o' → o.dst = some t → o'.dst ≠ some t
  reachm : ∀ j, Hd ops (m :: z :: U) j → reachF ops ops.size m j = true
  reachz : ∀ j, j < ops.size → j ≠ z → reachF ops ops.size z j = true
theorem midChk {m z : Nat} {U : List Nat} {N : Nat} (h : midB ops m z U N = true) : MidChk ops m z U N := by
  unfold midB at h
  simp only [Bool.and_eq_true] at h
  obtain ⟨⟨⟨⟨⟨⟨h1, h2⟩, h3⟩, h4⟩, h5⟩, h6⟩, h7⟩ := h
  simp only [List.all_eq_true, List.mem_range] at h6
  simp only [List.all_eq_true, List.mem_range, Bool.and_eq_true, decide_eq_true_eq, Bool.or_eq_true] at h7
  have edge : ∀ i o, ops[i]? = some o → ∀ e ∈ o.after, Region.binds .any e = true → e.on < i ∧ ((m :: z :: U).contains i = true ∨ (m :: z :: U).contains e.on = false) := by
    intro i o ho e he hb
    have := h6 i (Array.getElem?_eq_some_iff.1 ho).1
    rw [ho] at this
    simp only [Bool.and_eq_true] at this
    have h4 := List.all_eq_true.1 this.1.1 e (by simpa using he)
    rw [hb] at h4
    simp only [Bool.not_true, Bool.false_or, Bool.and_eq_true, decide_eq_true_eq, Bool.or_eq_true, Bool.not_eq_true'] at h4
    exact h4
  have own : ∀ i o, i ≠ z → ops[i]? = some o → ∃ t, o.dst = some t ∧ t < N ∧ ∀ j o', j < i → j ≠ z → ops[j]? = some o' → o'.dst ≠ some t := by
    intro i o hi ho
    have := h6 i (Array.getElem?_eq_some_iff.1 ho).1
    rw [ho] at this
    simp only [Bool.and_eq_true, Bool.or_eq_true, decide_eq_true_eq] at this
    have h4 := this.2.resolve_left hi
    cases hd : o.dst with
    | none => rw [hd] at h4; cases h4
    | some t =>
      rw [hd] at h4
      simp only [Bool.and_eq_true, decide_eq_true_eq, List.all_eq_true, List.mem_range, Bool.or_eq_true] at h4
      refine ⟨t, rfl, h4.1, fun j o' hj hh ho' => ?_⟩
      have h6 := (h4.2 j hj).resolve_left hh
      rw [ho'] at h6
      simpa using h6
  refine ⟨by simpa using h1, by simpa using h2, by simpa using h3, by simpa using h4, by simpa using h5, fun i o ho e he hb => (edge i o ho e he hb).1, fun i o hi ho e he hb => ?_, fun i o ho => ?_, fun i o hi ho => ?_, fun i j o o' t hi hj hij ho ho' hd => ?_, fun j hj => ?_, fun j hj hjz => (h7 j hj).2.resolve_left hjz⟩
  · obtain ⟨q1, q2⟩ := edge i o ho e he hb
    exact ⟨Nat.lt_trans q1 hi.1, q2.resolve_left (by rw [hi.2]; simp)⟩
  · have := h6 i (Array.getElem?_eq_some_iff.1 ho).1
    rw [ho] at this
    simp only [Bool.and_eq_true] at this
    simpa using this.1.2
  · obtain ⟨t, q1, q2, _⟩ := own i o hi ho
    exact ⟨t, q1, q2⟩
  · rcases Nat.lt_or_gt_of_ne hij with h | h
    · obtain ⟨t', q1, _, q3⟩ := own j o' hj ho'
      intro hd'
      rw [hd'] at q1; cases q1
      exact q3 i o h hi ho hd
    · obtain ⟨t', q1, _, q3⟩ := own i o hi ho
      rw [hd] at q1; cases q1
      exact q3 j o' h hj ho'
  · exact (h7 j hj.1).1.resolve_left (by rw [hj.2]; simp)
/-- the frame but for the places of the operations -/
def FrA (ops : Array Oper) (a a' : Act) : Prop := a'.defers = a.defers ∧ a'.tmps.size = a.tmps.size ∧ ∀ t, (∀ (i : Nat) (o : Oper), ops[i]? = some o → o.dst ≠ some t) → a'.tmps.getD t undef = a.tmps.getD t undef
theorem FrA.put {a a' : Act} {i t : Nat} {o : Oper} (h : FrA ops a a') (ho : ops[i]? = some o) (ht : o.dst = some t) (v : Value) : FrA ops a (a'.put (some t) v) :=
  ⟨h.1, by simp [Act.put, h.2.1], fun t' ht' => by rw [getD_put_other (by rintro rfl; exact ht' i o ho ht)]; exact h.2.2 t' ht'⟩
def notDstA (ops : Array Oper) (t : Nat) : Bool := (List.range ops.size).all fun i => match ops[i]? with | some o => decide (o.dst ≠ some t) | none => true
theorem FrA.at {a a' : Act} (h : FrA ops a a') (t : Nat) (hb : notDstA ops t = true) : a'.tmps.getD t undef = a.tmps.getD t undef := by
  refine h.2.2 t fun i o ho => ?_
  simp only [notDstA, List.all_eq_true, List.mem_range] at hb
  have := hb i (Array.getElem?_eq_some_iff.1 ho).1
  rw [ho] at this
  simpa using this
theorem FrA.ev {a a' : Act} (h : FrA ops a a') (t : Nat) (hb : notDstA ops t = true) {v : Value} (hv : a.tmps.getD t undef = v) : a'.eval (.tmp t) = v := by
  rw [← hv]; exact h.at t hb
theorem wp_region_mid {id : Nat} {a : Act} {w : World} (m z : Nat) (U : List Nat) (N : Nat) (hm : P.follows .mixedOrders = true) (hB : midB ops m z U N = true) (hN : a.tmps.size = N)
    (V : Nat → Value → Nat → Nat → World → Prop) (u : Nat → Value) (M : Value → World → Prop)
    (stab : ∀ i v s t w' w'', V i v s t w' → Below w'.heap.size w' w'' → V i v s t w'')
    (hs : ∀ i o, Hd ops (m :: z :: U) i → ops[i]? = some o → ∀ a' w', Below w.heap.size w w' → FrA ops a a' →
      (∀ e ∈ o.after, Region.binds .any e = true → ∀ o' d, ops[e.on]? = some o' → o'.dst = some d → ∃ s t, w.heap.size ≤ s ∧ t ≤ w'.heap.size ∧ V e.on (a'.tmps.getD d undef) s t w') →
      o.wp P a' w' (fun a'' w'' => ∃ v s t, a'' = a'.put o.dst v ∧ Below w'.heap.size w' w'' ∧ w'.heap.size ≤ s ∧ t ≤ w''.heap.size ∧ V i v s t w'') Q)
    (hu : ∀ i o, i ∈ U → ops[i]? = some o → ∀ a' w', FrA ops a a' → o.wp P a' w' (fun a'' w'' => a'' = a'.put o.dst (u i) ∧ w'' = w') Q)
    (hmid : ∀ o a' w', ops[m]? = some o → Below w.heap.size w w' → FrA ops a a' → (∀ i o d, Hd ops (m :: z :: U) i → ops[i]? = some o → o.dst = some d → ∃ s t, w.heap.size ≤ s ∧ t ≤ w'.heap.size ∧ V i (a'.tmps.getD d undef) s t w') →
      o.wp P a' w' (fun a'' w'' => ∃ v, a'' = a'.put o.dst v ∧ M v w'') Q)
    (hz : ∀ o om dm a' w' v, ops[z]? = some o → ops[m]? = some om → om.dst = some dm → FrA ops a a' → a'.tmps.getD dm undef = v → (∀ i o d, i ∈ U → ops[i]? = some o → o.dst = some d → a'.tmps.getD d undef = u i) → M v w' →
      o.wp P a' w' (Q .normal) Q) :
    (Code.region id ops true).wp P Q a w := by
  have K := midChk hB
  have wanted : ∀ (i : Nat) (o : Oper) a', ops[i]? = some o → Region.wanted o (yielded ops a') = true := fun i o a' ho => by simp [Region.wanted, K.guard i o ho]
  have hneq : ∀ i, Hd ops (m :: z :: U) i → i ≠ m ∧ i ≠ z ∧ ¬ i ∈ U := fun i hi => by have := hi.2; simpa using this
  let GU : (Nat → Bool) → Act → Prop := fun d a' => ∀ i o dd, i ∈ U → d i = true → ops[i]? = some o → o.dst = some dd → a'.tmps.getD dd undef = u i
  let GH : (Nat → Bool) → Act → World → Prop := fun d a' w' => ∀ i o dd, Hd ops (m :: z :: U) i → d i = true → ops[i]? = some o → o.dst = some dd → ∃ s t, w.heap.size ≤ s ∧ t ≤ w'.heap.size ∧ V i (a'.tmps.getD dd undef) s t w'
  let GM : Act → World → Prop := fun a' w' => ∀ o dd, ops[m]? = some o → o.dst = some dd → M (a'.tmps.getD dd undef) w'
  have toU : ∀ d a' (i : Nat) (o : Oper) ti v, ops[i]? = some o → o.dst = some ti → ti < a'.tmps.size → i ≠ z → (i ∈ U → v = u i) → GU d a' → GU (fun j => if j = i then true else d j) (a'.put (some ti) v) := by
    intro d a' i o ti v ho hti hlt hiz hv hg k o' dd hk hdk ho' ht
    by_cases e : k = i
    · subst e
      rw [ho] at ho'; cases ho'
      rw [hti] at ht; cases ht
      rw [getD_put_same hlt]; exact hv hk
    · simp only [if_neg e] at hdk
      rw [getD_put_other (by rintro rfl; exact K.apart i k o o' ti hiz (fun h => K.zU (h ▸ hk)) (fun h => e h.symm) ho ho' hti ht)]
      exact hg k o' dd hk hdk ho' ht
  refine wp_region_inv hm (fun d a' w' => (d m = false ∧ d z = false ∧ Below w.heap.size w w' ∧ FrA ops a a' ∧ GH d a' w' ∧ GU d a') ∨ (d m = true ∧ d z = false ∧ FrA ops a a' ∧ GM a' w' ∧ GU d a' ∧ ∀ i, Hd ops (m :: z :: U) i → d i = true) ∨ (d z = true ∧ Q .normal a' w')) K.back ?_ ?_ ?_
  · exact .inl ⟨rfl, rfl, ⟨rfl, rfl, rfl, Nat.le_refl _, fun _ _ => rfl⟩, ⟨rfl, rfl, fun _ _ => rfl⟩, fun _ _ _ _ h => (by cases h), fun _ _ _ _ h => (by cases h)⟩
  · intro d a' w' i o ho hd hdeps hcl hbig hI
    have hi := (Array.getElem?_eq_some_iff.1 ho).1
    have hreach : ∀ j, reachF ops ops.size i j = true → d j = true := fun j h => reachF_done hcl _ i j (fun o' ho' => by rw [ho] at ho'; cases ho'; exact hdeps) h
    have hzf : d z = false := by
      rcases hI with h | h | h
      · exact h.2.1
      · exact h.2.1
      · by_cases e : i = z
        · subst e; rw [hd] at h; cases h.1
        · have h2 := reachF_done hcl ops.size z i (fun o' ho' e' he' hb => hcl z o' ho' h.1 e' he' hb) (K.reachz i hi e)
          rw [hd] at h2; cases h2
    unfold wpOp
    rw [ho]
    dsimp only
    rw [if_pos (wanted i o _ ho)]
    by_cases hiz : i = z
    · subst hiz
      have hmt : d m = true := hreach m (K.reachz m K.mlt K.mz)
      rcases hI with h | h | h
      · rw [hmt] at h; cases h.1
      · obtain ⟨_, _, hF, hM, hU, _⟩ := h
        obtain ⟨dm, hdm, _⟩ := K.dst m (ops[m]'(K.mlt)) K.mz (by simp [K.mlt])
        refine .inl (Oper.wp_mono (fun a'' w'' h => ?_) (hz o (ops[m]'(K.mlt)) dm a' w' _ ho (by simp [K.mlt]) hdm hF rfl (fun k o' dd hk ho' ht => hU k o' dd hk (hreach k (K.reachz k (Array.getElem?_eq_some_iff.1 ho').1 (fun e => K.zU (e ▸ hk)))) ho' ht) (hM _ _ (by simp [K.mlt]) hdm)))
        exact .inr (.inr ⟨by simp, h⟩)
      · rw [hzf] at h; cases h.1
    · obtain ⟨ti, hti, htN⟩ := K.dst i o hiz ho
      have hzf' : (if z = i then true else d z) = false := by rw [if_neg (fun e => hiz e.symm)]; exact hzf
      by_cases him : i = m
      · subst him
        rcases hI with h | h | h
        · obtain ⟨_, _, hC, hF, hV, hU⟩ := h
          refine .inl (Oper.wp_mono ?_ (hmid o a' w' ho hC hF (fun k o' dd hk ho' ht => hV k o' dd hk (hreach k (K.reachm k hk)) ho' ht)))
          rintro a'' w'' ⟨v, rfl, hM⟩
          rw [hti]
          have hlt : ti < a'.tmps.size := by rw [hF.2.1, hN]; exact htN
          refine .inr (.inl ⟨by simp, hzf', hF.put ho hti v, fun o' dd ho' ht => ?_, toU d a' i o ti v ho hti hlt hiz (fun h => absurd h K.mU) hU, fun k hk => ?_⟩)
          · rw [ho] at ho'; cases ho'
            rw [hti] at ht; cases ht
            rw [getD_put_same hlt]; exact hM
          · rw [if_neg (hneq k hk).1]; exact hreach k (K.reachm k hk)
        · rw [hd] at h; cases h.1
        · rw [hzf] at h; cases h.1
      · have hmi : (if m = i then true else d m) = d m := if_neg (fun e => him e.symm)
        by_cases hiU : i ∈ U
        · rcases hI with h | h | h
          · obtain ⟨hmf, _, hC, hF, hV, hU⟩ := h
            have hlt : ti < a'.tmps.size := by rw [hF.2.1, hN]; exact htN
            refine .inl (Oper.wp_mono ?_ (hu i o hiU ho a' w' hF))
            rintro a'' w'' ⟨rfl, rfl⟩
            rw [hti]
            refine .inl ⟨by rw [hmi]; exact hmf, hzf', hC, hF.put ho hti _, fun k o' dd hk hdk ho' ht => ?_, toU d a' i o ti _ ho hti hlt hiz (fun _ => rfl) hU⟩
            have hki : k ≠ i := fun e => (hneq k hk).2.2 (e ▸ hiU)
            simp only [if_neg hki] at hdk
            rw [getD_put_other (by rintro rfl; exact K.apart i k o o' ti hiz (hneq k hk).2.1 (fun h => hki h.symm) ho ho' hti ht)]
            exact hV k o' dd hk hdk ho' ht
          · obtain ⟨hmt, _, hF, hM, hU, hall⟩ := h
            have hlt : ti < a'.tmps.size := by rw [hF.2.1, hN]; exact htN
            refine .inl (Oper.wp_mono ?_ (hu i o hiU ho a' w' hF))
            rintro a'' w'' ⟨rfl, rfl⟩
            rw [hti]
            refine .inr (.inl ⟨by rw [hmi]; exact hmt, hzf', hF.put ho hti _, fun o' dd ho' ht => ?_, toU d a' i o ti _ ho hti hlt hiz (fun _ => rfl) hU, fun k hk => ?_⟩)
            · rw [getD_put_other (by rintro rfl; exact K.apart i m o o' ti hiz K.mz him ho ho' hti ht)]
              exact hM o' dd ho' ht
            · by_cases e : k = i
              · rw [if_pos e]
              · rw [if_neg e]; exact hall k hk
          · rw [hzf] at h; cases h.1
        · have hin : Hd ops (m :: z :: U) i := ⟨hi, by simp [him, hiz, hiU]⟩
          rcases hI with h | h | h
          · obtain ⟨hmf, _, hC, hF, hV, hU⟩ := h
            have hlt : ti < a'.tmps.size := by rw [hF.2.1, hN]; exact htN
            refine .inl (Oper.wp_mono ?_ (hs i o hin ho a' w' hC hF (fun e he' hb o' dd ho' ht => hV e.on o' dd (K.hd i o hin ho e he' hb) (hdeps e he' hb) ho' ht)))
            rintro a'' w'' ⟨v, s0, t0, rfl, hR, hs0, ht0, hVi⟩
            rw [hti]
            refine .inl ⟨by rw [hmi]; exact hmf, hzf', hC.trans (hR.mono hC.size), hF.put ho hti _, fun k o' dd hk hdk ho' ht => ?_, toU d a' i o ti _ ho hti hlt hiz (fun h => absurd h hiU) hU⟩
            by_cases e : k = i
            · subst e
              rw [ho] at ho'; cases ho'
              rw [hti] at ht; cases ht
              rw [getD_put_same hlt]
              exact ⟨s0, t0, Nat.le_trans hC.size hs0, ht0, hVi⟩
            · simp only [if_neg e] at hdk
              rw [getD_put_other (by rintro rfl; exact K.apart i k o o' ti hiz (hneq k hk).2.1 (fun h => e h.symm) ho ho' hti ht)]
              obtain ⟨s, t, q1, q2, q3⟩ := hV k o' dd hk hdk ho' ht
              exact ⟨s, t, q1, Nat.le_trans q2 hR.size, stab _ _ _ _ _ _ q3 hR⟩
          · have := h.2.2.2.2.2 i hin
            rw [hd] at this; cases this
          · rw [hzf] at h; cases h.1
  · intro d a' w' hall hbig hI
    rcases hI with h | h | h
    · rw [hall z K.zlt] at h; cases h.2.1
    · rw [hall z K.zlt] at h; cases h.2.1
    · exact h.2
end
end Go.Proofs.Ythochdlbmaiclaa
