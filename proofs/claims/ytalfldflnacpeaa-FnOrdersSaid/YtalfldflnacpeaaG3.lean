/- Neighbours of a variable, on both sides. -/
import Derived.Test.YtalfldflnacpeaaG2
namespace Go.Proofs.Ytalfldflnacpeaa
set_option linter.unusedSimpArgs false
set_option linter.unusedVariables false
open Go.RowKit
/-- x stands in an atom together with v -/
def Adj (xs : List AtomD) (v x : Int) : Prop := x ≠ v ∧ ∃ i, i < xs.length ∧ occ (ax xs i).vs v = true ∧ occ (ax xs i).vs x = true
theorem getDA {xs : List AtomD} {i : Nat} {x : DV} (h : i < xs.length) : (xs.map atomDV).getD i x = atomDV (ax xs i) := by simp [List.getD, ax, h]
theorem occ_mem {l : List Int} {v : Int} : occ l v = true ↔ v ∈ l := by
  unfold occ findF
  rw [decide_eq_true_eq]
  constructor
  · intro h
    split at h
    · rename_i hl
      have hp : ∀ (p : Nat → Prop) (n : Nat), firstIx p n < n → p (firstIx p n) := fun p n => by
        induction n with
        | zero => intro h; omega
        | succ n ih =>
          intro h
          simp only [firstIx] at h ⊢
          split
          · rename_i h1; exact ih h1
          · split
            · assumption
            · rename_i h1 h2; rw [if_neg h1, if_neg h2] at h; omega
      exact mem_ix.2 ⟨_, hl, hp _ _ hl⟩
    · omega
  · intro h
    have hp : ∀ (p : Nat → Prop) (n j : Nat), j < n → p j → firstIx p n < n := fun p n j hj hpj => by
      induction n with
      | zero => omega
      | succ n ih =>
        simp only [firstIx]
        split
        · omega
        · rename_i h1
          split
          · omega
          · rename_i h2
            by_cases e : j = n
            · subst e; exact absurd hpj h2
            · exact absurd (ih (by omega)) h1
    obtain ⟨i, hi, e⟩ := mem_ix.1 h
    rw [if_pos (hp (fun i => ix l i = v) _ i hi e)]
    omega
theorem av_mem {l : List Int} (h : ∀ j, j < l.length → 0 ≤ ix l j ∧ ix l j ≤ 4) (x : Int) : x ∈ avTo l 5 ↔ occ l x = true := by
  have key : ∀ k : Nat, x ∈ avTo l k ↔ ∃ j : Nat, j < k ∧ x = j ∧ occ l j = true := fun k => by
    induction k with
    | zero => simp [avTo]
    | succ k ih =>
      cases hk : occ l k with
      | true =>
        rw [avTo_put hk, List.mem_append, ih, List.mem_singleton]
        constructor
        · rintro (⟨j, h1, h2, h3⟩ | h1)
          · exact ⟨j, by omega, h2, h3⟩
          · exact ⟨k, by omega, h1, hk⟩
        · rintro ⟨j, h1, h2, h3⟩
          by_cases e : j = k
          · subst e; exact .inr h2
          · exact .inl ⟨j, by omega, h2, h3⟩
      | false =>
        rw [avTo_keep hk, ih]
        constructor
        · rintro ⟨j, h1, h2, h3⟩; exact ⟨j, by omega, h2, h3⟩
        · rintro ⟨j, h1, h2, h3⟩
          by_cases e : j = k
          · subst e; rw [hk] at h3; cases h3
          · exact ⟨j, by omega, h2, h3⟩
  rw [key]
  constructor
  · rintro ⟨j, _, rfl, h3⟩; exact h3
  · intro ho
    obtain ⟨i, hi, e⟩ := mem_ix.1 (occ_mem.1 ho)
    have := h i hi
    rw [e] at this
    exact ⟨x.toNat, by omega, by omega, by rw [show ((x.toNat : Nat) : Int) = x by omega]; exact ho⟩
theorem implNbA (nv : Int) (xs : List AtomD) (us : List Int) (hn : NmOK xs) (hq : qOK nv xs us = true) (v : Int) : AFn 30 [.d (queryD nv xs us), .d (.int v)] [] (fun r os => (∃ l : List Int, (∀ x, x ∈ l ↔ Adj xs v x) ∧ l.length ≤ 1000 ∧ r = .d (intsD l)) ∧ os = []) := by
  obtain ⟨⟨⟨_, hnv⟩, _, hx4⟩, _, hat, _⟩ := qOK_out hq
  refine afn_of (rv := [.tmp 4]) tyT_ok Try.func30 rfl (by decide +kernel) Try.ntmps30 rfl (by simp) ?_
  repeat' (first | refine awp_seq ?_ | refine then_n ?_ | refine then_r ?_ | refine then_e ?_ | refine blk_n ?_ | refine blk_r ?_ | refine blk_e ?_ | refine blk_o (by decide) ?_ | refine awp_block ?_ | refine awp_skip ?_ | refine awp_exit ?_ | refine awp_ret ?_ | (apply awp_condB; (focus (simp (disch := (first | omega | (simp; omega))) only [go_sem, ↓reduceIte, Nat.reduceEqDiff, Nat.reduceLT, Nat.reduceAdd, Nat.reduceLeDiff, Nat.reduceMul, Nat.reduceBEq, Nat.reduceSub, reduceCtorEq, Int.reduceLE, Int.reduceNeg, Int.reduceLT, w64, intsD]; try exact rfl)); first | with_reducible refine condOf_t ?_ | with_reducible refine condOf_f ?_) | (refine awp_region' tyT_ok ?_; intro K hK) | (refine awp_draw tyT_ok (by kernel_rfl) (by kernel_rfl) ?_; intro K hK) | (with_reducible refine hK _ ?_; clear hK K) | ((first | with_reducible refine ka_id ?_ | with_reducible refine kd_id ?_ | refine aops_id ?_ | refine wops_id ?_); simp (disch := (first | omega | (simp; omega))) only [go_sem, ↓reduceIte, Nat.reduceEqDiff, Nat.reduceLT, Nat.reduceAdd, Nat.reduceLeDiff, Nat.reduceMul, Nat.reduceBEq, Nat.reduceSub, reduceCtorEq, Int.reduceLE, Int.reduceNeg, Int.reduceLT, w64, intsD]) | (with_reducible refine And.intro ?_ ?_; focus (first | with_reducible assumption | with_reducible rfl | omega | kernel_rfl | (simp; done) | (simp; omega))))
  (first | refine callA (implValidQA nv xs us hn) ?_ | refine callD (implValidQA nv xs us hn) ?_ | refine callE (implValidQA nv xs us hn) ?_ | refine callF (implValidQA nv xs us hn) ?_ ?_)
  repeat' (first | refine awp_seq ?_ | refine then_n ?_ | refine then_r ?_ | refine then_e ?_ | refine blk_n ?_ | refine blk_r ?_ | refine blk_e ?_ | refine blk_o (by decide) ?_ | refine awp_block ?_ | refine awp_skip ?_ | refine awp_exit ?_ | refine awp_ret ?_ | (apply awp_condB; (focus (simp (disch := (first | omega | (simp; omega))) only [go_sem, ↓reduceIte, Nat.reduceEqDiff, Nat.reduceLT, Nat.reduceAdd, Nat.reduceLeDiff, Nat.reduceMul, Nat.reduceBEq, Nat.reduceSub, reduceCtorEq, Int.reduceLE, Int.reduceNeg, Int.reduceLT, w64, hq]; try exact rfl)); first | with_reducible refine condOf_t ?_ | with_reducible refine condOf_f ?_) | (refine awp_region' tyT_ok ?_; intro K hK) | (refine awp_draw tyT_ok (by kernel_rfl) (by kernel_rfl) ?_; intro K hK) | (with_reducible refine hK _ ?_; clear hK K) | ((first | with_reducible refine ka_id ?_ | with_reducible refine kd_id ?_ | refine aops_id ?_ | refine wops_id ?_); simp (disch := (first | omega | (simp; omega))) only [go_sem, ↓reduceIte, Nat.reduceEqDiff, Nat.reduceLT, Nat.reduceAdd, Nat.reduceLeDiff, Nat.reduceMul, Nat.reduceBEq, Nat.reduceSub, reduceCtorEq, Int.reduceLE, Int.reduceNeg, Int.reduceLT, w64, hq]) | (with_reducible refine And.intro ?_ ?_; focus (first | with_reducible assumption | with_reducible rfl | omega | kernel_rfl | (simp; done) | (simp; omega))))
  refine awp_loopw (fun m s => ∃ (k : Nat) (l : List Int), m = xs.length - k ∧ k ≤ xs.length ∧ (∀ x, x ∈ l ↔ ∃ i, i < k ∧ occ (ax xs i).vs v = true ∧ occ (ax xs i).vs x = true) ∧ l.length ≤ 5 * k ∧ s = mkS [(1, .d (.int v)), (5, .d (intsD l)), (12, .d (.sl 2 (xs.map atomDV))), (13, .d (.int (xs.length : Nat))), (14, .d (.int (k : Nat)))] []) ?_ ?_
  · refine ⟨_, _, ?_, 0, [], rfl, Nat.zero_le _, by simp, by simp, rfl⟩
    (refine sle_mk ?_ ?_ <;> simp (disch := (first | omega | (simp; omega))) only [go_sem, ↓reduceIte, Nat.reduceEqDiff, Nat.reduceLT, Nat.reduceAdd, Nat.reduceLeDiff, Nat.reduceMul, Nat.reduceBEq, Nat.reduceSub, reduceCtorEq, Int.reduceLE, Int.reduceNeg, Int.reduceLT, w64, intsD, List.map_nil] <;> (repeat (first | refine And.intro ?_ ?_ | (first | with_reducible exact ALe.refl _ | with_reducible exact ALe.nil _ | with_reducible exact ALe.dd (dle_wh _ _) | with_reducible exact ALe.nl | with_reducible exact ALe.nilw _ | with_reducible exact ALe.bufw _ _ _ _ | with_reducible exact ALe.dd (dle_rel0 _) | with_reducible exact ALe.dd (dle_rowsV _) | with_reducible exact ALe.dd (dle_rowsW _) | with_reducible exact ALe.buf _ _ _ _ | (refine ale_int ?_; first | with_reducible assumption | with_reducible rfl | omega | kernel_rfl | (simp; done) | (simp; omega)) | (refine ale_bool ?_; first | with_reducible assumption | with_reducible rfl | omega | kernel_rfl | (simp; done) | (simp; omega)) | (refine ale_buf ?_; (first | rfl | (simp; done))) | (refine ale_bufd ?_; (first | rfl | (simp; done))) | (refine ale_bufw ?_; (first | rfl | (simp; done))) | (refine ale_sl ?_; (first | rfl | (simp; done))) | (refine ale_arr ?_; first | with_reducible assumption | with_reducible rfl | omega | kernel_rfl | (simp; done) | (simp; omega))) | (first | (refine ob_eq ?_; (first | rfl | (simp; done))) | (refine ob_les ?_; (repeat' (first | exact ALes.nil | refine ALes.cons ?_ ?_ | (first | with_reducible exact ALe.refl _ | with_reducible exact ALe.nil _ | with_reducible exact ALe.dd (dle_wh _ _) | with_reducible exact ALe.nl | with_reducible exact ALe.nilw _ | with_reducible exact ALe.bufw _ _ _ _ | with_reducible exact ALe.dd (dle_rel0 _) | with_reducible exact ALe.dd (dle_rowsV _) | with_reducible exact ALe.dd (dle_rowsW _) | with_reducible exact ALe.buf _ _ _ _ | (refine ale_int ?_; first | with_reducible assumption | with_reducible rfl | omega | kernel_rfl | (simp; done) | (simp; omega)) | (refine ale_bool ?_; first | with_reducible assumption | with_reducible rfl | omega | kernel_rfl | (simp; done) | (simp; omega)) | (refine ale_buf ?_; (first | rfl | (simp; done))) | (refine ale_bufd ?_; (first | rfl | (simp; done))) | (refine ale_bufw ?_; (first | rfl | (simp; done))) | (refine ale_sl ?_; (first | rfl | (simp; done))) | (refine ale_arr ?_; first | with_reducible assumption | with_reducible rfl | omega | kernel_rfl | (simp; done) | (simp; omega))))); done) | (refine ob_eq ?_)))))
  · rintro m s ⟨k, l, rfl, hk, hm, hl, rfl⟩
    repeat' (first | refine awp_seq ?_ | refine then_n ?_ | refine then_r ?_ | refine then_e ?_ | refine blk_n ?_ | refine blk_r ?_ | refine blk_e ?_ | refine blk_o (by decide) ?_ | refine awp_block ?_ | refine awp_skip ?_ | refine awp_exit ?_ | refine awp_ret ?_ | (apply awp_condB; (focus (simp (disch := (first | omega | (simp; omega))) only [go_sem, ↓reduceIte, Nat.reduceEqDiff, Nat.reduceLT, Nat.reduceAdd, Nat.reduceLeDiff, Nat.reduceMul, Nat.reduceBEq, Nat.reduceSub, reduceCtorEq, Int.reduceLE, Int.reduceNeg, Int.reduceLT, w64]; try exact rfl)); first | with_reducible refine condOf_t ?_ | with_reducible refine condOf_f ?_) | (refine awp_region' tyT_ok ?_; intro K hK) | (refine awp_draw tyT_ok (by kernel_rfl) (by kernel_rfl) ?_; intro K hK) | (with_reducible refine hK _ ?_; clear hK K) | ((first | with_reducible refine ka_id ?_ | with_reducible refine kd_id ?_ | refine aops_id ?_ | refine wops_id ?_); simp (disch := (first | omega | (simp; omega))) only [go_sem, ↓reduceIte, Nat.reduceEqDiff, Nat.reduceLT, Nat.reduceAdd, Nat.reduceLeDiff, Nat.reduceMul, Nat.reduceBEq, Nat.reduceSub, reduceCtorEq, Int.reduceLE, Int.reduceNeg, Int.reduceLT, w64]) | (with_reducible refine And.intro ?_ ?_; focus (first | with_reducible assumption | with_reducible rfl | omega | kernel_rfl | (simp; done) | (simp; omega))))
    refine awp_if (p := (k : Int) < xs.length) (by simp (disch := (first | omega | (simp; omega))) only [go_sem, ↓reduceIte, Nat.reduceEqDiff, Nat.reduceLT, Nat.reduceAdd, Nat.reduceLeDiff, Nat.reduceMul, Nat.reduceBEq, Nat.reduceSub, reduceCtorEq, Int.reduceLE, Int.reduceNeg, Int.reduceLT, w64]) ?_ ?_ <;> intro hc
    · have hk2 : k < xs.length := by omega
      repeat' (first | refine awp_seq ?_ | refine then_n ?_ | refine then_r ?_ | refine then_e ?_ | refine blk_n ?_ | refine blk_r ?_ | refine blk_e ?_ | refine blk_o (by decide) ?_ | refine awp_block ?_ | refine awp_skip ?_ | refine awp_exit ?_ | refine awp_ret ?_ | (apply awp_condB; (focus (simp (disch := (first | omega | (simp; omega))) only [go_sem, ↓reduceIte, Nat.reduceEqDiff, Nat.reduceLT, Nat.reduceAdd, Nat.reduceLeDiff, Nat.reduceMul, Nat.reduceBEq, Nat.reduceSub, reduceCtorEq, Int.reduceLE, Int.reduceNeg, Int.reduceLT, w64, getDA, atomDV]; try exact rfl)); first | with_reducible refine condOf_t ?_ | with_reducible refine condOf_f ?_) | (refine awp_region' tyT_ok ?_; intro K hK) | (refine awp_draw tyT_ok (by kernel_rfl) (by kernel_rfl) ?_; intro K hK) | (with_reducible refine hK _ ?_; clear hK K) | ((first | with_reducible refine ka_id ?_ | with_reducible refine kd_id ?_ | refine aops_id ?_ | refine wops_id ?_); simp (disch := (first | omega | (simp; omega))) only [go_sem, ↓reduceIte, Nat.reduceEqDiff, Nat.reduceLT, Nat.reduceAdd, Nat.reduceLeDiff, Nat.reduceMul, Nat.reduceBEq, Nat.reduceSub, reduceCtorEq, Int.reduceLE, Int.reduceNeg, Int.reduceLT, w64, getDA, atomDV]) | (with_reducible refine And.intro ?_ ?_; focus (first | with_reducible assumption | with_reducible rfl | omega | kernel_rfl | (simp; done) | (simp; omega))))
      (first | refine callA (implHasA (ax xs k) v) ?_ | refine callD (implHasA (ax xs k) v) ?_ | refine callE (implHasA (ax xs k) v) ?_ | refine callF (implHasA (ax xs k) v) ?_ ?_)
      cases ho : occ (ax xs k).vs v with
      | false =>
        repeat' (first | refine awp_seq ?_ | refine then_n ?_ | refine then_r ?_ | refine then_e ?_ | refine blk_n ?_ | refine blk_r ?_ | refine blk_e ?_ | refine blk_o (by decide) ?_ | refine awp_block ?_ | refine awp_skip ?_ | refine awp_exit ?_ | refine awp_ret ?_ | (apply awp_condB; (focus (simp (disch := (first | omega | (simp; omega))) only [go_sem, ↓reduceIte, Nat.reduceEqDiff, Nat.reduceLT, Nat.reduceAdd, Nat.reduceLeDiff, Nat.reduceMul, Nat.reduceBEq, Nat.reduceSub, reduceCtorEq, Int.reduceLE, Int.reduceNeg, Int.reduceLT, w64]; try exact rfl)); first | with_reducible refine condOf_t ?_ | with_reducible refine condOf_f ?_) | (refine awp_region' tyT_ok ?_; intro K hK) | (refine awp_draw tyT_ok (by kernel_rfl) (by kernel_rfl) ?_; intro K hK) | (with_reducible refine hK _ ?_; clear hK K) | ((first | with_reducible refine ka_id ?_ | with_reducible refine kd_id ?_ | refine aops_id ?_ | refine wops_id ?_); simp (disch := (first | omega | (simp; omega))) only [go_sem, ↓reduceIte, Nat.reduceEqDiff, Nat.reduceLT, Nat.reduceAdd, Nat.reduceLeDiff, Nat.reduceMul, Nat.reduceBEq, Nat.reduceSub, reduceCtorEq, Int.reduceLE, Int.reduceNeg, Int.reduceLT, w64]) | (with_reducible refine And.intro ?_ ?_; focus (first | with_reducible assumption | with_reducible rfl | omega | kernel_rfl | (simp; done) | (simp; omega))))
        refine ⟨xs.length - (k + 1), _, by omega, ?_, k + 1, l, rfl, by omega, fun x => ?_, by omega, rfl⟩
        · exact sleA
        · rw [hm]
          constructor
          · rintro ⟨i, h1, h2⟩; exact ⟨i, by omega, h2⟩
          · rintro ⟨i, h1, h2, h3⟩
            by_cases e : i = k
            · subst e; rw [ho] at h2; cases h2
            · exact ⟨i, by omega, h2, h3⟩
      | true =>
        repeat' (first | refine awp_seq ?_ | refine then_n ?_ | refine then_r ?_ | refine then_e ?_ | refine blk_n ?_ | refine blk_r ?_ | refine blk_e ?_ | refine blk_o (by decide) ?_ | refine awp_block ?_ | refine awp_skip ?_ | refine awp_exit ?_ | refine awp_ret ?_ | (apply awp_condB; (focus (simp (disch := (first | omega | (simp; omega))) only [go_sem, ↓reduceIte, Nat.reduceEqDiff, Nat.reduceLT, Nat.reduceAdd, Nat.reduceLeDiff, Nat.reduceMul, Nat.reduceBEq, Nat.reduceSub, reduceCtorEq, Int.reduceLE, Int.reduceNeg, Int.reduceLT, w64, atomDV]; try exact rfl)); first | with_reducible refine condOf_t ?_ | with_reducible refine condOf_f ?_) | (refine awp_region' tyT_ok ?_; intro K hK) | (refine awp_draw tyT_ok (by kernel_rfl) (by kernel_rfl) ?_; intro K hK) | (with_reducible refine hK _ ?_; clear hK K) | ((first | with_reducible refine ka_id ?_ | with_reducible refine kd_id ?_ | refine aops_id ?_ | refine wops_id ?_); simp (disch := (first | omega | (simp; omega))) only [go_sem, ↓reduceIte, Nat.reduceEqDiff, Nat.reduceLT, Nat.reduceAdd, Nat.reduceLeDiff, Nat.reduceMul, Nat.reduceBEq, Nat.reduceSub, reduceCtorEq, Int.reduceLE, Int.reduceNeg, Int.reduceLT, w64, atomDV]) | (with_reducible refine And.intro ?_ ?_; focus (first | with_reducible assumption | with_reducible rfl | omega | kernel_rfl | (simp; done) | (simp; omega))))
        (first | refine callA (implVarsA (ax xs k)) ?_ | refine callD (implVarsA (ax xs k)) ?_ | refine callE (implVarsA (ax xs k)) ?_ | refine callF (implVarsA (ax xs k)) ?_ ?_)
        repeat' (first | refine awp_seq ?_ | refine then_n ?_ | refine then_r ?_ | refine then_e ?_ | refine blk_n ?_ | refine blk_r ?_ | refine blk_e ?_ | refine blk_o (by decide) ?_ | refine awp_block ?_ | refine awp_skip ?_ | refine awp_exit ?_ | refine awp_ret ?_ | (apply awp_condB; (focus (simp (disch := (first | omega | (simp; omega))) only [go_sem, ↓reduceIte, Nat.reduceEqDiff, Nat.reduceLT, Nat.reduceAdd, Nat.reduceLeDiff, Nat.reduceMul, Nat.reduceBEq, Nat.reduceSub, reduceCtorEq, Int.reduceLE, Int.reduceNeg, Int.reduceLT, w64]; try exact rfl)); first | with_reducible refine condOf_t ?_ | with_reducible refine condOf_f ?_) | (refine awp_region' tyT_ok ?_; intro K hK) | (refine awp_draw tyT_ok (by kernel_rfl) (by kernel_rfl) ?_; intro K hK) | (with_reducible refine hK _ ?_; clear hK K) | ((first | with_reducible refine ka_id ?_ | with_reducible refine kd_id ?_ | refine aops_id ?_ | refine wops_id ?_); simp (disch := (first | omega | (simp; omega))) only [go_sem, ↓reduceIte, Nat.reduceEqDiff, Nat.reduceLT, Nat.reduceAdd, Nat.reduceLeDiff, Nat.reduceMul, Nat.reduceBEq, Nat.reduceSub, reduceCtorEq, Int.reduceLE, Int.reduceNeg, Int.reduceLT, w64]) | (with_reducible refine And.intro ?_ ?_; focus (first | with_reducible assumption | with_reducible rfl | omega | kernel_rfl | (simp; done) | (simp; omega))))
        have hav := avTo_len (ax xs k).vs 5
        (first | refine callA (uniteA l (avTo (ax xs k).vs 5) (by omega) (by omega)) ?_ | refine callD (uniteA l (avTo (ax xs k).vs 5) (by omega) (by omega)) ?_ | refine callE (uniteA l (avTo (ax xs k).vs 5) (by omega) (by omega)) ?_ | refine callF (uniteA l (avTo (ax xs k).vs 5) (by omega) (by omega)) ?_ ?_)
        rintro r os ⟨⟨l', hm', hl', rfl⟩, rfl⟩
        refine ⟨by decide, ?_⟩
        repeat' (first | refine awp_seq ?_ | refine then_n ?_ | refine then_r ?_ | refine then_e ?_ | refine blk_n ?_ | refine blk_r ?_ | refine blk_e ?_ | refine blk_o (by decide) ?_ | refine awp_block ?_ | refine awp_skip ?_ | refine awp_exit ?_ | refine awp_ret ?_ | (apply awp_condB; (focus (simp (disch := (first | omega | (simp; omega))) only [go_sem, ↓reduceIte, Nat.reduceEqDiff, Nat.reduceLT, Nat.reduceAdd, Nat.reduceLeDiff, Nat.reduceMul, Nat.reduceBEq, Nat.reduceSub, reduceCtorEq, Int.reduceLE, Int.reduceNeg, Int.reduceLT, w64]; try exact rfl)); first | with_reducible refine condOf_t ?_ | with_reducible refine condOf_f ?_) | (refine awp_region' tyT_ok ?_; intro K hK) | (refine awp_draw tyT_ok (by kernel_rfl) (by kernel_rfl) ?_; intro K hK) | (with_reducible refine hK _ ?_; clear hK K) | ((first | with_reducible refine ka_id ?_ | with_reducible refine kd_id ?_ | refine aops_id ?_ | refine wops_id ?_); simp (disch := (first | omega | (simp; omega))) only [go_sem, ↓reduceIte, Nat.reduceEqDiff, Nat.reduceLT, Nat.reduceAdd, Nat.reduceLeDiff, Nat.reduceMul, Nat.reduceBEq, Nat.reduceSub, reduceCtorEq, Int.reduceLE, Int.reduceNeg, Int.reduceLT, w64]) | (with_reducible refine And.intro ?_ ?_; focus (first | with_reducible assumption | with_reducible rfl | omega | kernel_rfl | (simp; done) | (simp; omega))))
        refine ⟨xs.length - (k + 1), _, by omega, ?_, k + 1, l', rfl, by omega, fun x => ?_, by omega, rfl⟩
        · exact sleA
        · rw [hm', hm, av_mem (fun j hj => by have := (hat k hk2).2.2 j hj; omega)]
          constructor
          · rintro (⟨i, h1, h2⟩ | h1)
            · exact ⟨i, by omega, h2⟩
            · exact ⟨k, by omega, ho, h1⟩
          · rintro ⟨i, h1, h2, h3⟩
            by_cases e : i = k
            · subst e; exact .inr h3
            · exact .inl ⟨i, by omega, h2, h3⟩
    · obtain rfl : k = xs.length := by omega
      repeat' (first | refine awp_seq ?_ | refine then_n ?_ | refine then_r ?_ | refine then_e ?_ | refine blk_n ?_ | refine blk_r ?_ | refine blk_e ?_ | refine blk_o (by decide) ?_ | refine awp_block ?_ | refine awp_skip ?_ | refine awp_exit ?_ | refine awp_ret ?_ | (apply awp_condB; (focus (simp (disch := (first | omega | (simp; omega))) only [go_sem, ↓reduceIte, Nat.reduceEqDiff, Nat.reduceLT, Nat.reduceAdd, Nat.reduceLeDiff, Nat.reduceMul, Nat.reduceBEq, Nat.reduceSub, reduceCtorEq, Int.reduceLE, Int.reduceNeg, Int.reduceLT, w64]; try exact rfl)); first | with_reducible refine condOf_t ?_ | with_reducible refine condOf_f ?_) | (refine awp_region' tyT_ok ?_; intro K hK) | (refine awp_draw tyT_ok (by kernel_rfl) (by kernel_rfl) ?_; intro K hK) | (with_reducible refine hK _ ?_; clear hK K) | ((first | with_reducible refine ka_id ?_ | with_reducible refine kd_id ?_ | refine aops_id ?_ | refine wops_id ?_); simp (disch := (first | omega | (simp; omega))) only [go_sem, ↓reduceIte, Nat.reduceEqDiff, Nat.reduceLT, Nat.reduceAdd, Nat.reduceLeDiff, Nat.reduceMul, Nat.reduceBEq, Nat.reduceSub, reduceCtorEq, Int.reduceLE, Int.reduceNeg, Int.reduceLT, w64]) | (with_reducible refine And.intro ?_ ?_; focus (first | with_reducible assumption | with_reducible rfl | omega | kernel_rfl | (simp; done) | (simp; omega))))
      (first | refine callA (withoutA l v (by omega)) ?_ | refine callD (withoutA l v (by omega)) ?_ | refine callE (withoutA l v (by omega)) ?_ | refine callF (withoutA l v (by omega)) ?_ ?_)
      repeat' (first | refine awp_seq ?_ | refine then_n ?_ | refine then_r ?_ | refine then_e ?_ | refine blk_n ?_ | refine blk_r ?_ | refine blk_e ?_ | refine blk_o (by decide) ?_ | refine awp_block ?_ | refine awp_skip ?_ | refine awp_exit ?_ | refine awp_ret ?_ | (apply awp_condB; (focus (simp (disch := (first | omega | (simp; omega))) only [go_sem, ↓reduceIte, Nat.reduceEqDiff, Nat.reduceLT, Nat.reduceAdd, Nat.reduceLeDiff, Nat.reduceMul, Nat.reduceBEq, Nat.reduceSub, reduceCtorEq, Int.reduceLE, Int.reduceNeg, Int.reduceLT, w64]; try exact rfl)); first | with_reducible refine condOf_t ?_ | with_reducible refine condOf_f ?_) | (refine awp_region' tyT_ok ?_; intro K hK) | (refine awp_draw tyT_ok (by kernel_rfl) (by kernel_rfl) ?_; intro K hK) | (with_reducible refine hK _ ?_; clear hK K) | ((first | with_reducible refine ka_id ?_ | with_reducible refine kd_id ?_ | refine aops_id ?_ | refine wops_id ?_); simp (disch := (first | omega | (simp; omega))) only [go_sem, ↓reduceIte, Nat.reduceEqDiff, Nat.reduceLT, Nat.reduceAdd, Nat.reduceLeDiff, Nat.reduceMul, Nat.reduceBEq, Nat.reduceSub, reduceCtorEq, Int.reduceLE, Int.reduceNeg, Int.reduceLT, w64]) | (with_reducible refine And.intro ?_ ?_; focus (first | with_reducible assumption | with_reducible rfl | omega | kernel_rfl | (simp; done) | (simp; omega))))
      (refine endA (r := .d (intsD (l.filter (fun x => decide (x ≠ v))))) ?_)
      refine ⟨⟨_, fun x => ?_, Nat.le_trans (List.length_filter_le _ _) (by omega), rfl⟩, rfl⟩
      rw [List.mem_filter, hm, decide_eq_true_eq]
      exact ⟨fun h => ⟨h.2, h.1⟩, fun h => ⟨h.2, h.1⟩⟩
/-- whether v and x stand in one of the first k atoms -/
noncomputable def adjTo (xs : List AtomD) (v x : Int) : Nat → Bool
  | 0 => false
  | k + 1 => adjTo xs v x k || (decide (x ≠ v) && (occ (ax xs k).vs v && occ (ax xs k).vs x))
theorem adjTo_iff (xs : List AtomD) (v x : Int) : ∀ k, adjTo xs v x k = true ↔ x ≠ v ∧ ∃ i, i < k ∧ occ (ax xs i).vs v = true ∧ occ (ax xs i).vs x = true
  | 0 => by simp [adjTo]
  | k + 1 => by
    simp only [adjTo, Bool.or_eq_true, Bool.and_eq_true, decide_eq_true_eq]
    rw [adjTo_iff xs v x k]
    constructor
    · rintro (⟨h1, i, h2, h3⟩ | ⟨h1, h2, h3⟩)
      · exact ⟨h1, i, by omega, h3⟩
      · exact ⟨h1, k, by omega, h2, h3⟩
    · rintro ⟨h1, i, h2, h3, h4⟩
      by_cases e : i = k
      · subst e; exact .inr ⟨h1, h3, h4⟩
      · exact .inl ⟨h1, i, by omega, h3, h4⟩
theorem specNbA (nv : Int) (xs : List AtomD) (us : List Int) (hn : NmOK xs) (hq : qOK nv xs us = true) (v : Int) : AFn 60 [.d (queryD nv xs us), .d (.int v)] [] (fun r os => (∃ l : List Int, (∀ x, x ∈ l ↔ Adj xs v x) ∧ l.length ≤ 1000 ∧ r = .d (intsD l)) ∧ os = []) := by
  obtain ⟨⟨⟨hnv0, hnv⟩, _, hx4⟩, _, hat, _⟩ := qOK_out hq
  refine afn_of (rv := [.tmp 4]) tyT_ok Try.func60 rfl (by decide +kernel) Try.ntmps60 rfl (by simp) ?_
  repeat' (first | refine awp_seq ?_ | refine then_n ?_ | refine then_r ?_ | refine then_e ?_ | refine blk_n ?_ | refine blk_r ?_ | refine blk_e ?_ | refine blk_o (by decide) ?_ | refine awp_block ?_ | refine awp_skip ?_ | refine awp_exit ?_ | refine awp_ret ?_ | (apply awp_condB; (focus (simp (disch := (first | omega | (simp; omega))) only [go_sem, ↓reduceIte, Nat.reduceEqDiff, Nat.reduceLT, Nat.reduceAdd, Nat.reduceLeDiff, Nat.reduceMul, Nat.reduceBEq, Nat.reduceSub, reduceCtorEq, Int.reduceLE, Int.reduceNeg, Int.reduceLT, w64, intsD]; try exact rfl)); first | with_reducible refine condOf_t ?_ | with_reducible refine condOf_f ?_) | (refine awp_region' tyT_ok ?_; intro K hK) | (refine awp_draw tyT_ok (by kernel_rfl) (by kernel_rfl) ?_; intro K hK) | (with_reducible refine hK _ ?_; clear hK K) | ((first | with_reducible refine ka_id ?_ | with_reducible refine kd_id ?_ | refine aops_id ?_ | refine wops_id ?_); simp (disch := (first | omega | (simp; omega))) only [go_sem, ↓reduceIte, Nat.reduceEqDiff, Nat.reduceLT, Nat.reduceAdd, Nat.reduceLeDiff, Nat.reduceMul, Nat.reduceBEq, Nat.reduceSub, reduceCtorEq, Int.reduceLE, Int.reduceNeg, Int.reduceLT, w64, intsD]) | (with_reducible refine And.intro ?_ ?_; focus (first | with_reducible assumption | with_reducible rfl | omega | kernel_rfl | (simp; done) | (simp; omega))))
  refine awp_loopw (fun m s => ∃ (k : Nat) (l : List Int), m = nv.toNat - k ∧ (k : Int) ≤ nv ∧ (∀ x, x ∈ l ↔ (0 ≤ x ∧ x < k) ∧ Adj xs v x) ∧ l.length ≤ k ∧ s = mkS [(1, .d (.int v)), (2, .ptr 2 0), (5, .buf 9 3 1 (l.map .int)), (6, .d (.int (k : Nat)))] [(2, [.d (.int nv), .d (.sl 2 (xs.map atomDV)), .d (intsD us)])]) ?_ ?_
  · refine ⟨_, _, ?_, 0, [], rfl, by omega, fun x => ⟨fun h => by simp at h, fun h => by omega⟩, by simp, rfl⟩
    exact sleA
  · rintro m s ⟨k, l, rfl, hk, hm, hl, rfl⟩
    by_cases hc : (k : Int) < nv
    · have hct : (k : Int) < nv ↔ True := iff_of_true hc trivial
      repeat' (first | refine awp_seq ?_ | refine then_n ?_ | refine then_r ?_ | refine then_e ?_ | refine blk_n ?_ | refine blk_r ?_ | refine blk_e ?_ | refine blk_o (by decide) ?_ | refine awp_block ?_ | refine awp_skip ?_ | refine awp_exit ?_ | refine awp_ret ?_ | (apply awp_condB; (focus (simp (disch := (first | omega | (simp; omega))) only [go_sem, ↓reduceIte, Nat.reduceEqDiff, Nat.reduceLT, Nat.reduceAdd, Nat.reduceLeDiff, Nat.reduceMul, Nat.reduceBEq, Nat.reduceSub, reduceCtorEq, Int.reduceLE, Int.reduceNeg, Int.reduceLT, w64, hct]; try exact rfl)); first | with_reducible refine condOf_t ?_ | with_reducible refine condOf_f ?_) | (refine awp_region' tyT_ok ?_; intro K hK) | (refine awp_draw tyT_ok (by kernel_rfl) (by kernel_rfl) ?_; intro K hK) | (with_reducible refine hK _ ?_; clear hK K) | ((first | with_reducible refine ka_id ?_ | with_reducible refine kd_id ?_ | refine aops_id ?_ | refine wops_id ?_); simp (disch := (first | omega | (simp; omega))) only [go_sem, ↓reduceIte, Nat.reduceEqDiff, Nat.reduceLT, Nat.reduceAdd, Nat.reduceLeDiff, Nat.reduceMul, Nat.reduceBEq, Nat.reduceSub, reduceCtorEq, Int.reduceLE, Int.reduceNeg, Int.reduceLT, w64, hct]) | (with_reducible refine And.intro ?_ ?_; focus (first | with_reducible assumption | with_reducible rfl | omega | kernel_rfl | (simp; done) | (simp; omega))))
      (first | refine callA (specValidQA nv xs us hn) ?_ | refine callD (specValidQA nv xs us hn) ?_ | refine callE (specValidQA nv xs us hn) ?_ | refine callF (specValidQA nv xs us hn) ?_ ?_)
      repeat' (first | refine awp_seq ?_ | refine then_n ?_ | refine then_r ?_ | refine then_e ?_ | refine blk_n ?_ | refine blk_r ?_ | refine blk_e ?_ | refine blk_o (by decide) ?_ | refine awp_block ?_ | refine awp_skip ?_ | refine awp_exit ?_ | refine awp_ret ?_ | (apply awp_condB; (focus (simp (disch := (first | omega | (simp; omega))) only [go_sem, ↓reduceIte, Nat.reduceEqDiff, Nat.reduceLT, Nat.reduceAdd, Nat.reduceLeDiff, Nat.reduceMul, Nat.reduceBEq, Nat.reduceSub, reduceCtorEq, Int.reduceLE, Int.reduceNeg, Int.reduceLT, w64, hct, hq]; try exact rfl)); first | with_reducible refine condOf_t ?_ | with_reducible refine condOf_f ?_) | (refine awp_region' tyT_ok ?_; intro K hK) | (refine awp_draw tyT_ok (by kernel_rfl) (by kernel_rfl) ?_; intro K hK) | (with_reducible refine hK _ ?_; clear hK K) | ((first | with_reducible refine ka_id ?_ | with_reducible refine kd_id ?_ | refine aops_id ?_ | refine wops_id ?_); simp (disch := (first | omega | (simp; omega))) only [go_sem, ↓reduceIte, Nat.reduceEqDiff, Nat.reduceLT, Nat.reduceAdd, Nat.reduceLeDiff, Nat.reduceMul, Nat.reduceBEq, Nat.reduceSub, reduceCtorEq, Int.reduceLE, Int.reduceNeg, Int.reduceLT, w64, hct, hq]) | (with_reducible refine And.intro ?_ ?_; focus (first | with_reducible assumption | with_reducible rfl | omega | kernel_rfl | (simp; done) | (simp; omega))))
      refine awp_loopw (fun m s => ∃ j : Nat, m = xs.length - j ∧ j ≤ xs.length ∧ s = mkS [(1, .d (.int v)), (2, .ptr 2 0), (5, .buf 9 3 1 (l.map .int)), (6, .d (.int (k : Nat))), (7, .d (.bool (adjTo xs v k j))), (8, .d (.int (j : Nat)))] [(2, [.d (.int nv), .d (.sl 2 (xs.map atomDV)), .d (intsD us)])]) ?_ ?_
      · refine ⟨_, _, ?_, 0, rfl, Nat.zero_le _, rfl⟩
        (refine sle_mk ?_ ?_ <;> simp (disch := (first | omega | (simp; omega))) only [go_sem, ↓reduceIte, Nat.reduceEqDiff, Nat.reduceLT, Nat.reduceAdd, Nat.reduceLeDiff, Nat.reduceMul, Nat.reduceBEq, Nat.reduceSub, reduceCtorEq, Int.reduceLE, Int.reduceNeg, Int.reduceLT, w64, adjTo] <;> (repeat (first | refine And.intro ?_ ?_ | (first | with_reducible exact ALe.refl _ | with_reducible exact ALe.nil _ | with_reducible exact ALe.dd (dle_wh _ _) | with_reducible exact ALe.nl | with_reducible exact ALe.nilw _ | with_reducible exact ALe.bufw _ _ _ _ | with_reducible exact ALe.dd (dle_rel0 _) | with_reducible exact ALe.dd (dle_rowsV _) | with_reducible exact ALe.dd (dle_rowsW _) | with_reducible exact ALe.buf _ _ _ _ | (refine ale_int ?_; first | with_reducible assumption | with_reducible rfl | omega | kernel_rfl | (simp; done) | (simp; omega)) | (refine ale_bool ?_; first | with_reducible assumption | with_reducible rfl | omega | kernel_rfl | (simp; done) | (simp; omega)) | (refine ale_buf ?_; (first | rfl | (simp; done))) | (refine ale_bufd ?_; (first | rfl | (simp; done))) | (refine ale_bufw ?_; (first | rfl | (simp; done))) | (refine ale_sl ?_; (first | rfl | (simp; done))) | (refine ale_arr ?_; first | with_reducible assumption | with_reducible rfl | omega | kernel_rfl | (simp; done) | (simp; omega))) | (first | (refine ob_eq ?_; (first | rfl | (simp; done))) | (refine ob_les ?_; (repeat' (first | exact ALes.nil | refine ALes.cons ?_ ?_ | (first | with_reducible exact ALe.refl _ | with_reducible exact ALe.nil _ | with_reducible exact ALe.dd (dle_wh _ _) | with_reducible exact ALe.nl | with_reducible exact ALe.nilw _ | with_reducible exact ALe.bufw _ _ _ _ | with_reducible exact ALe.dd (dle_rel0 _) | with_reducible exact ALe.dd (dle_rowsV _) | with_reducible exact ALe.dd (dle_rowsW _) | with_reducible exact ALe.buf _ _ _ _ | (refine ale_int ?_; first | with_reducible assumption | with_reducible rfl | omega | kernel_rfl | (simp; done) | (simp; omega)) | (refine ale_bool ?_; first | with_reducible assumption | with_reducible rfl | omega | kernel_rfl | (simp; done) | (simp; omega)) | (refine ale_buf ?_; (first | rfl | (simp; done))) | (refine ale_bufd ?_; (first | rfl | (simp; done))) | (refine ale_bufw ?_; (first | rfl | (simp; done))) | (refine ale_sl ?_; (first | rfl | (simp; done))) | (refine ale_arr ?_; first | with_reducible assumption | with_reducible rfl | omega | kernel_rfl | (simp; done) | (simp; omega))))); done) | (refine ob_eq ?_)))))
      · rintro m s ⟨j, rfl, hj, rfl⟩
        repeat' (first | refine awp_seq ?_ | refine then_n ?_ | refine then_r ?_ | refine then_e ?_ | refine blk_n ?_ | refine blk_r ?_ | refine blk_e ?_ | refine blk_o (by decide) ?_ | refine awp_block ?_ | refine awp_skip ?_ | refine awp_exit ?_ | refine awp_ret ?_ | (apply awp_condB; (focus (simp (disch := (first | omega | (simp; omega))) only [go_sem, ↓reduceIte, Nat.reduceEqDiff, Nat.reduceLT, Nat.reduceAdd, Nat.reduceLeDiff, Nat.reduceMul, Nat.reduceBEq, Nat.reduceSub, reduceCtorEq, Int.reduceLE, Int.reduceNeg, Int.reduceLT, w64]; try exact rfl)); first | with_reducible refine condOf_t ?_ | with_reducible refine condOf_f ?_) | (refine awp_region' tyT_ok ?_; intro K hK) | (refine awp_draw tyT_ok (by kernel_rfl) (by kernel_rfl) ?_; intro K hK) | (with_reducible refine hK _ ?_; clear hK K) | ((first | with_reducible refine ka_id ?_ | with_reducible refine kd_id ?_ | refine aops_id ?_ | refine wops_id ?_); simp (disch := (first | omega | (simp; omega))) only [go_sem, ↓reduceIte, Nat.reduceEqDiff, Nat.reduceLT, Nat.reduceAdd, Nat.reduceLeDiff, Nat.reduceMul, Nat.reduceBEq, Nat.reduceSub, reduceCtorEq, Int.reduceLE, Int.reduceNeg, Int.reduceLT, w64]) | (with_reducible refine And.intro ?_ ?_; focus (first | with_reducible assumption | with_reducible rfl | omega | kernel_rfl | (simp; done) | (simp; omega))))
        refine awp_if (p := (j : Int) < xs.length) (by simp (disch := (first | omega | (simp; omega))) only [go_sem, ↓reduceIte, Nat.reduceEqDiff, Nat.reduceLT, Nat.reduceAdd, Nat.reduceLeDiff, Nat.reduceMul, Nat.reduceBEq, Nat.reduceSub, reduceCtorEq, Int.reduceLE, Int.reduceNeg, Int.reduceLT, w64]) ?_ ?_ <;> intro hc2
        · have hj2 : j < xs.length := by omega
          have es : adjTo xs v k (j + 1) = (adjTo xs v k j || (decide ((k : Int) ≠ v) && (occ (ax xs j).vs v && occ (ax xs j).vs k))) := rfl
          cases ha : adjTo xs v k j with
          | true =>
            repeat' (first | refine awp_seq ?_ | refine then_n ?_ | refine then_r ?_ | refine then_e ?_ | refine blk_n ?_ | refine blk_r ?_ | refine blk_e ?_ | refine blk_o (by decide) ?_ | refine awp_block ?_ | refine awp_skip ?_ | refine awp_exit ?_ | refine awp_ret ?_ | (apply awp_condB; (focus (simp (disch := (first | omega | (simp; omega))) only [go_sem, ↓reduceIte, Nat.reduceEqDiff, Nat.reduceLT, Nat.reduceAdd, Nat.reduceLeDiff, Nat.reduceMul, Nat.reduceBEq, Nat.reduceSub, reduceCtorEq, Int.reduceLE, Int.reduceNeg, Int.reduceLT, w64, ha]; try exact rfl)); first | with_reducible refine condOf_t ?_ | with_reducible refine condOf_f ?_) | (refine awp_region' tyT_ok ?_; intro K hK) | (refine awp_draw tyT_ok (by kernel_rfl) (by kernel_rfl) ?_; intro K hK) | (with_reducible refine hK _ ?_; clear hK K) | ((first | with_reducible refine ka_id ?_ | with_reducible refine kd_id ?_ | refine aops_id ?_ | refine wops_id ?_); simp (disch := (first | omega | (simp; omega))) only [go_sem, ↓reduceIte, Nat.reduceEqDiff, Nat.reduceLT, Nat.reduceAdd, Nat.reduceLeDiff, Nat.reduceMul, Nat.reduceBEq, Nat.reduceSub, reduceCtorEq, Int.reduceLE, Int.reduceNeg, Int.reduceLT, w64, ha]) | (with_reducible refine And.intro ?_ ?_; focus (first | with_reducible assumption | with_reducible rfl | omega | kernel_rfl | (simp; done) | (simp; omega))))
            have e : adjTo xs v k (j + 1) = true := by rw [es, ha]; rfl
            refine ⟨xs.length - (j + 1), _, by omega, ?_, j + 1, rfl, by omega, rfl⟩
            rw [e]
            exact sleA
          | false =>
            by_cases hw : (k : Int) = v
            · have hwt : (k : Int) = v ↔ True := iff_of_true hw trivial
              repeat' (first | refine awp_seq ?_ | refine then_n ?_ | refine then_r ?_ | refine then_e ?_ | refine blk_n ?_ | refine blk_r ?_ | refine blk_e ?_ | refine blk_o (by decide) ?_ | refine awp_block ?_ | refine awp_skip ?_ | refine awp_exit ?_ | refine awp_ret ?_ | (apply awp_condB; (focus (simp (disch := (first | omega | (simp; omega))) only [go_sem, ↓reduceIte, Nat.reduceEqDiff, Nat.reduceLT, Nat.reduceAdd, Nat.reduceLeDiff, Nat.reduceMul, Nat.reduceBEq, Nat.reduceSub, reduceCtorEq, Int.reduceLE, Int.reduceNeg, Int.reduceLT, w64, ha, hwt]; try exact rfl)); first | with_reducible refine condOf_t ?_ | with_reducible refine condOf_f ?_) | (refine awp_region' tyT_ok ?_; intro K hK) | (refine awp_draw tyT_ok (by kernel_rfl) (by kernel_rfl) ?_; intro K hK) | (with_reducible refine hK _ ?_; clear hK K) | ((first | with_reducible refine ka_id ?_ | with_reducible refine kd_id ?_ | refine aops_id ?_ | refine wops_id ?_); simp (disch := (first | omega | (simp; omega))) only [go_sem, ↓reduceIte, Nat.reduceEqDiff, Nat.reduceLT, Nat.reduceAdd, Nat.reduceLeDiff, Nat.reduceMul, Nat.reduceBEq, Nat.reduceSub, reduceCtorEq, Int.reduceLE, Int.reduceNeg, Int.reduceLT, w64, ha, hwt]) | (with_reducible refine And.intro ?_ ?_; focus (first | with_reducible assumption | with_reducible rfl | omega | kernel_rfl | (simp; done) | (simp; omega))))
              have e : adjTo xs v k (j + 1) = false := by rw [es, ha]; simp [hw]
              refine ⟨xs.length - (j + 1), _, by omega, ?_, j + 1, rfl, by omega, rfl⟩
              rw [e]
              exact sleA
            · have hwf : (k : Int) = v ↔ False := iff_of_false hw id
              repeat' (first | refine awp_seq ?_ | refine then_n ?_ | refine then_r ?_ | refine then_e ?_ | refine blk_n ?_ | refine blk_r ?_ | refine blk_e ?_ | refine blk_o (by decide) ?_ | refine awp_block ?_ | refine awp_skip ?_ | refine awp_exit ?_ | refine awp_ret ?_ | (apply awp_condB; (focus (simp (disch := (first | omega | (simp; omega))) only [go_sem, ↓reduceIte, Nat.reduceEqDiff, Nat.reduceLT, Nat.reduceAdd, Nat.reduceLeDiff, Nat.reduceMul, Nat.reduceBEq, Nat.reduceSub, reduceCtorEq, Int.reduceLE, Int.reduceNeg, Int.reduceLT, w64, ha, hwf, getDA, atomDV]; try exact rfl)); first | with_reducible refine condOf_t ?_ | with_reducible refine condOf_f ?_) | (refine awp_region' tyT_ok ?_; intro K hK) | (refine awp_draw tyT_ok (by kernel_rfl) (by kernel_rfl) ?_; intro K hK) | (with_reducible refine hK _ ?_; clear hK K) | ((first | with_reducible refine ka_id ?_ | with_reducible refine kd_id ?_ | refine aops_id ?_ | refine wops_id ?_); simp (disch := (first | omega | (simp; omega))) only [go_sem, ↓reduceIte, Nat.reduceEqDiff, Nat.reduceLT, Nat.reduceAdd, Nat.reduceLeDiff, Nat.reduceMul, Nat.reduceBEq, Nat.reduceSub, reduceCtorEq, Int.reduceLE, Int.reduceNeg, Int.reduceLT, w64, ha, hwf, getDA, atomDV]) | (with_reducible refine And.intro ?_ ?_; focus (first | with_reducible assumption | with_reducible rfl | omega | kernel_rfl | (simp; done) | (simp; omega))))
              (first | refine callA (specHasA (ax xs j) v) ?_ | refine callD (specHasA (ax xs j) v) ?_ | refine callE (specHasA (ax xs j) v) ?_ | refine callF (specHasA (ax xs j) v) ?_ ?_)
              cases h1 : occ (ax xs j).vs v with
              | false =>
                repeat' (first | refine awp_seq ?_ | refine then_n ?_ | refine then_r ?_ | refine then_e ?_ | refine blk_n ?_ | refine blk_r ?_ | refine blk_e ?_ | refine blk_o (by decide) ?_ | refine awp_block ?_ | refine awp_skip ?_ | refine awp_exit ?_ | refine awp_ret ?_ | (apply awp_condB; (focus (simp (disch := (first | omega | (simp; omega))) only [go_sem, ↓reduceIte, Nat.reduceEqDiff, Nat.reduceLT, Nat.reduceAdd, Nat.reduceLeDiff, Nat.reduceMul, Nat.reduceBEq, Nat.reduceSub, reduceCtorEq, Int.reduceLE, Int.reduceNeg, Int.reduceLT, w64, ha, hwf]; try exact rfl)); first | with_reducible refine condOf_t ?_ | with_reducible refine condOf_f ?_) | (refine awp_region' tyT_ok ?_; intro K hK) | (refine awp_draw tyT_ok (by kernel_rfl) (by kernel_rfl) ?_; intro K hK) | (with_reducible refine hK _ ?_; clear hK K) | ((first | with_reducible refine ka_id ?_ | with_reducible refine kd_id ?_ | refine aops_id ?_ | refine wops_id ?_); simp (disch := (first | omega | (simp; omega))) only [go_sem, ↓reduceIte, Nat.reduceEqDiff, Nat.reduceLT, Nat.reduceAdd, Nat.reduceLeDiff, Nat.reduceMul, Nat.reduceBEq, Nat.reduceSub, reduceCtorEq, Int.reduceLE, Int.reduceNeg, Int.reduceLT, w64, ha, hwf]) | (with_reducible refine And.intro ?_ ?_; focus (first | with_reducible assumption | with_reducible rfl | omega | kernel_rfl | (simp; done) | (simp; omega))))
                have e : adjTo xs v k (j + 1) = false := by rw [es, ha, h1]; simp
                refine ⟨xs.length - (j + 1), _, by omega, ?_, j + 1, rfl, by omega, rfl⟩
                rw [e]
                exact sleA
              | true =>
                repeat' (first | refine awp_seq ?_ | refine then_n ?_ | refine then_r ?_ | refine then_e ?_ | refine blk_n ?_ | refine blk_r ?_ | refine blk_e ?_ | refine blk_o (by decide) ?_ | refine awp_block ?_ | refine awp_skip ?_ | refine awp_exit ?_ | refine awp_ret ?_ | (apply awp_condB; (focus (simp (disch := (first | omega | (simp; omega))) only [go_sem, ↓reduceIte, Nat.reduceEqDiff, Nat.reduceLT, Nat.reduceAdd, Nat.reduceLeDiff, Nat.reduceMul, Nat.reduceBEq, Nat.reduceSub, reduceCtorEq, Int.reduceLE, Int.reduceNeg, Int.reduceLT, w64, ha, hwf, getDA, atomDV]; try exact rfl)); first | with_reducible refine condOf_t ?_ | with_reducible refine condOf_f ?_) | (refine awp_region' tyT_ok ?_; intro K hK) | (refine awp_draw tyT_ok (by kernel_rfl) (by kernel_rfl) ?_; intro K hK) | (with_reducible refine hK _ ?_; clear hK K) | ((first | with_reducible refine ka_id ?_ | with_reducible refine kd_id ?_ | refine aops_id ?_ | refine wops_id ?_); simp (disch := (first | omega | (simp; omega))) only [go_sem, ↓reduceIte, Nat.reduceEqDiff, Nat.reduceLT, Nat.reduceAdd, Nat.reduceLeDiff, Nat.reduceMul, Nat.reduceBEq, Nat.reduceSub, reduceCtorEq, Int.reduceLE, Int.reduceNeg, Int.reduceLT, w64, ha, hwf, getDA, atomDV]) | (with_reducible refine And.intro ?_ ?_; focus (first | with_reducible assumption | with_reducible rfl | omega | kernel_rfl | (simp; done) | (simp; omega))))
                (first | refine callA (specHasA (ax xs j) k) ?_ | refine callD (specHasA (ax xs j) k) ?_ | refine callE (specHasA (ax xs j) k) ?_ | refine callF (specHasA (ax xs j) k) ?_ ?_)
                cases h2 : occ (ax xs j).vs k with
                | false =>
                  repeat' (first | refine awp_seq ?_ | refine then_n ?_ | refine then_r ?_ | refine then_e ?_ | refine blk_n ?_ | refine blk_r ?_ | refine blk_e ?_ | refine blk_o (by decide) ?_ | refine awp_block ?_ | refine awp_skip ?_ | refine awp_exit ?_ | refine awp_ret ?_ | (apply awp_condB; (focus (simp (disch := (first | omega | (simp; omega))) only [go_sem, ↓reduceIte, Nat.reduceEqDiff, Nat.reduceLT, Nat.reduceAdd, Nat.reduceLeDiff, Nat.reduceMul, Nat.reduceBEq, Nat.reduceSub, reduceCtorEq, Int.reduceLE, Int.reduceNeg, Int.reduceLT, w64, ha, hwf]; try exact rfl)); first | with_reducible refine condOf_t ?_ | with_reducible refine condOf_f ?_) | (refine awp_region' tyT_ok ?_; intro K hK) | (refine awp_draw tyT_ok (by kernel_rfl) (by kernel_rfl) ?_; intro K hK) | (with_reducible refine hK _ ?_; clear hK K) | ((first | with_reducible refine ka_id ?_ | with_reducible refine kd_id ?_ | refine aops_id ?_ | refine wops_id ?_); simp (disch := (first | omega | (simp; omega))) only [go_sem, ↓reduceIte, Nat.reduceEqDiff, Nat.reduceLT, Nat.reduceAdd, Nat.reduceLeDiff, Nat.reduceMul, Nat.reduceBEq, Nat.reduceSub, reduceCtorEq, Int.reduceLE, Int.reduceNeg, Int.reduceLT, w64, ha, hwf]) | (with_reducible refine And.intro ?_ ?_; focus (first | with_reducible assumption | with_reducible rfl | omega | kernel_rfl | (simp; done) | (simp; omega))))
                  have e : adjTo xs v k (j + 1) = false := by rw [es, ha, h1, h2]; simp
                  refine ⟨xs.length - (j + 1), _, by omega, ?_, j + 1, rfl, by omega, rfl⟩
                  rw [e]
                  exact sleA
                | true =>
                  repeat' (first | refine awp_seq ?_ | refine then_n ?_ | refine then_r ?_ | refine then_e ?_ | refine blk_n ?_ | refine blk_r ?_ | refine blk_e ?_ | refine blk_o (by decide) ?_ | refine awp_block ?_ | refine awp_skip ?_ | refine awp_exit ?_ | refine awp_ret ?_ | (apply awp_condB; (focus (simp (disch := (first | omega | (simp; omega))) only [go_sem, ↓reduceIte, Nat.reduceEqDiff, Nat.reduceLT, Nat.reduceAdd, Nat.reduceLeDiff, Nat.reduceMul, Nat.reduceBEq, Nat.reduceSub, reduceCtorEq, Int.reduceLE, Int.reduceNeg, Int.reduceLT, w64, ha, hwf]; try exact rfl)); first | with_reducible refine condOf_t ?_ | with_reducible refine condOf_f ?_) | (refine awp_region' tyT_ok ?_; intro K hK) | (refine awp_draw tyT_ok (by kernel_rfl) (by kernel_rfl) ?_; intro K hK) | (with_reducible refine hK _ ?_; clear hK K) | ((first | with_reducible refine ka_id ?_ | with_reducible refine kd_id ?_ | refine aops_id ?_ | refine wops_id ?_); simp (disch := (first | omega | (simp; omega))) only [go_sem, ↓reduceIte, Nat.reduceEqDiff, Nat.reduceLT, Nat.reduceAdd, Nat.reduceLeDiff, Nat.reduceMul, Nat.reduceBEq, Nat.reduceSub, reduceCtorEq, Int.reduceLE, Int.reduceNeg, Int.reduceLT, w64, ha, hwf]) | (with_reducible refine And.intro ?_ ?_; focus (first | with_reducible assumption | with_reducible rfl | omega | kernel_rfl | (simp; done) | (simp; omega))))
                  have e : adjTo xs v k (j + 1) = true := by rw [es, ha, h1, h2]; simp [hw]
                  refine ⟨xs.length - (j + 1), _, by omega, ?_, j + 1, rfl, by omega, rfl⟩
                  rw [e]
                  exact sleA
        · obtain rfl : j = xs.length := by omega
          have hadj := adjTo_iff xs v k xs.length
          have hlb : l.length ≤ 16777214 := by omega
          cases ha : adjTo xs v k xs.length with
          | true =>
            repeat' (first | refine awp_seq ?_ | refine then_n ?_ | refine then_r ?_ | refine then_e ?_ | refine blk_n ?_ | refine blk_r ?_ | refine blk_e ?_ | refine blk_o (by decide) ?_ | refine awp_block ?_ | refine awp_skip ?_ | refine awp_exit ?_ | refine awp_ret ?_ | (apply awp_condB; (focus (simp (disch := (first | omega | (simp; omega))) only [go_sem, ↓reduceIte, Nat.reduceEqDiff, Nat.reduceLT, Nat.reduceAdd, Nat.reduceLeDiff, Nat.reduceMul, Nat.reduceBEq, Nat.reduceSub, reduceCtorEq, Int.reduceLE, Int.reduceNeg, Int.reduceLT, w64, ha]; try exact rfl)); first | with_reducible refine condOf_t ?_ | with_reducible refine condOf_f ?_) | (refine awp_region' tyT_ok ?_; intro K hK) | (refine awp_draw tyT_ok (by kernel_rfl) (by kernel_rfl) ?_; intro K hK) | (with_reducible refine hK _ ?_; clear hK K) | ((first | with_reducible refine ka_id ?_ | with_reducible refine kd_id ?_ | refine aops_id ?_ | refine wops_id ?_); simp (disch := (first | omega | (simp; omega))) only [go_sem, ↓reduceIte, Nat.reduceEqDiff, Nat.reduceLT, Nat.reduceAdd, Nat.reduceLeDiff, Nat.reduceMul, Nat.reduceBEq, Nat.reduceSub, reduceCtorEq, Int.reduceLE, Int.reduceNeg, Int.reduceLT, w64, ha]) | (with_reducible refine And.intro ?_ ?_; focus (first | with_reducible assumption | with_reducible rfl | omega | kernel_rfl | (simp; done) | (simp; omega))))
            refine ⟨nv.toNat - (k + 1), _, by omega, ?_, k + 1, l ++ [(k : Int)], rfl, by omega, fun x => ?_, by simp; omega, rfl⟩
            · rw [List.map_append]
              exact sleA
            · rw [List.mem_append, hm, List.mem_singleton]
              constructor
              · rintro (⟨h1, h2⟩ | rfl)
                · exact ⟨by omega, h2⟩
                · exact ⟨by omega, hadj.1 ha⟩
              · rintro ⟨h1, h2⟩
                by_cases e : x = k
                · exact .inr e
                · exact .inl ⟨by omega, h2⟩
          | false =>
            repeat' (first | refine awp_seq ?_ | refine then_n ?_ | refine then_r ?_ | refine then_e ?_ | refine blk_n ?_ | refine blk_r ?_ | refine blk_e ?_ | refine blk_o (by decide) ?_ | refine awp_block ?_ | refine awp_skip ?_ | refine awp_exit ?_ | refine awp_ret ?_ | (apply awp_condB; (focus (simp (disch := (first | omega | (simp; omega))) only [go_sem, ↓reduceIte, Nat.reduceEqDiff, Nat.reduceLT, Nat.reduceAdd, Nat.reduceLeDiff, Nat.reduceMul, Nat.reduceBEq, Nat.reduceSub, reduceCtorEq, Int.reduceLE, Int.reduceNeg, Int.reduceLT, w64, ha]; try exact rfl)); first | with_reducible refine condOf_t ?_ | with_reducible refine condOf_f ?_) | (refine awp_region' tyT_ok ?_; intro K hK) | (refine awp_draw tyT_ok (by kernel_rfl) (by kernel_rfl) ?_; intro K hK) | (with_reducible refine hK _ ?_; clear hK K) | ((first | with_reducible refine ka_id ?_ | with_reducible refine kd_id ?_ | refine aops_id ?_ | refine wops_id ?_); simp (disch := (first | omega | (simp; omega))) only [go_sem, ↓reduceIte, Nat.reduceEqDiff, Nat.reduceLT, Nat.reduceAdd, Nat.reduceLeDiff, Nat.reduceMul, Nat.reduceBEq, Nat.reduceSub, reduceCtorEq, Int.reduceLE, Int.reduceNeg, Int.reduceLT, w64, ha]) | (with_reducible refine And.intro ?_ ?_; focus (first | with_reducible assumption | with_reducible rfl | omega | kernel_rfl | (simp; done) | (simp; omega))))
            refine ⟨nv.toNat - (k + 1), _, by omega, ?_, k + 1, l, rfl, by omega, fun x => ?_, by omega, rfl⟩
            · exact sleA
            · rw [hm]
              constructor
              · rintro ⟨h1, h2⟩; exact ⟨by omega, h2⟩
              · rintro ⟨h1, h2⟩
                refine ⟨?_, h2⟩
                by_cases e : x = k
                · subst e; rw [hadj.2 h2] at ha; cases ha
                · omega
    · have hcf : (k : Int) < nv ↔ False := iff_of_false hc id
      repeat' (first | refine awp_seq ?_ | refine then_n ?_ | refine then_r ?_ | refine then_e ?_ | refine blk_n ?_ | refine blk_r ?_ | refine blk_e ?_ | refine blk_o (by decide) ?_ | refine awp_block ?_ | refine awp_skip ?_ | refine awp_exit ?_ | refine awp_ret ?_ | (apply awp_condB; (focus (simp (disch := (first | omega | (simp; omega))) only [go_sem, ↓reduceIte, Nat.reduceEqDiff, Nat.reduceLT, Nat.reduceAdd, Nat.reduceLeDiff, Nat.reduceMul, Nat.reduceBEq, Nat.reduceSub, reduceCtorEq, Int.reduceLE, Int.reduceNeg, Int.reduceLT, w64, hcf]; try exact rfl)); first | with_reducible refine condOf_t ?_ | with_reducible refine condOf_f ?_) | (refine awp_region' tyT_ok ?_; intro K hK) | (refine awp_draw tyT_ok (by kernel_rfl) (by kernel_rfl) ?_; intro K hK) | (with_reducible refine hK _ ?_; clear hK K) | ((first | with_reducible refine ka_id ?_ | with_reducible refine kd_id ?_ | refine aops_id ?_ | refine wops_id ?_); simp (disch := (first | omega | (simp; omega))) only [go_sem, ↓reduceIte, Nat.reduceEqDiff, Nat.reduceLT, Nat.reduceAdd, Nat.reduceLeDiff, Nat.reduceMul, Nat.reduceBEq, Nat.reduceSub, reduceCtorEq, Int.reduceLE, Int.reduceNeg, Int.reduceLT, w64, hcf]) | (with_reducible refine And.intro ?_ ?_; focus (first | with_reducible assumption | with_reducible rfl | omega | kernel_rfl | (simp; done) | (simp; omega))))
      (refine endA (r := .d (intsD l)) ?_)
      refine ⟨⟨l, fun x => ⟨fun h => ((hm x).1 h).2, fun h => (hm x).2 ⟨?_, h⟩⟩, by omega, rfl⟩, rfl⟩
      obtain ⟨_, i, hi, _, h3⟩ := h
      obtain ⟨j, hj, e⟩ := mem_ix.1 (occ_mem.1 h3)
      have := (hat i hi).2.2 j hj
      omega
end Go.Proofs.Ytalfldflnacpeaa
