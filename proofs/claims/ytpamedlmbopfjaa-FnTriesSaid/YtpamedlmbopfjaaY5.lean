/- What is known of the functions on tries, as contracts on abstract values. -/
import Derived.Test.YtpamedlmbopfjaaTL
import Derived.Test.YtpamedlmbopfjaaQ14
import Derived.Test.YtpamedlmbopfjaaU2
import Derived.Test.YtpamedlmbopfjaaW1
import Derived.Test.YtpamedlmbopfjaaD1
namespace Go.Proofs.Ytpamedlmbopfjaa
set_option linter.unusedSimpArgs false
set_option linter.unusedVariables false
open Go.RowKit
section
variable (ar : Int) (rows : List (List Int)) (p : List Int)
theorem rng_i64 (hl : rows.length ≤ 1048576) : I64 (rangeLo ar rows p : Nat) ∧ I64 (rangeHi ar rows p : Nat) ∧ (rangeLo ar rows p) ≤ rangeHi ar rows p ∧ rangeHi ar rows p ≤ 1048576 := by
  have h1 := preLo_le rows p
  have h2 := preHi_le' rows p
  have h3 := preHi_ge rows p
  unfold rangeLo rangeHi I64
  split <;> omega
theorem cvTwo {G : Gh} {w : World} {a b : Nat} (ha : I64 (a : Nat)) (hb : I64 (b : Nat)) : CV G w (.tup [.d (.int (a : Nat)), .d (.int (b : Nat))]) (twoV a b) :=
  ⟨_, rfl, _, _, rfl, cvInt.2 ⟨rfl, ha⟩, _, _, rfl, cvInt.2 ⟨rfl, hb⟩, rfl⟩
theorem implRangeA (hl : rows.length ≤ 1048576) : AFn 8 [.d (relD ar rows), .d (intsD p)] [] (fun r os => r = .tup [.d (.int (rangeLo ar rows p : Nat)), .d (.int (rangeHi ar rows p : Nat))] ∧ os = []) := by
  obtain ⟨i1, i2, _⟩ := rng_i64 ar rows p hl
  refine leaf_afn (fnOK (by kernel_rfl)) (fun _ _ => cvTwo i1 i2) ?_
  rintro w G _ ⟨v1, _, rfl, h1, v2, _, rfl, h2, rfl⟩ hC
  obtain ⟨a, n, c, rfl, har, hI⟩ := cv_rel hC h1
  obtain ⟨pa, pn, pc, rfl, hP⟩ := cv_ints hC h2
  exact implRange ar a n c rows pa pn pc p w hI (Nat.le_refl _) har hP (Nat.le_refl _)
theorem specRangeA (hl : rows.length ≤ 1048576) : AFn 9 [.d (relD ar rows), .d (intsD p)] [] (fun r os => r = .tup [.d (.int (rangeLo ar rows p : Nat)), .d (.int (rangeHi ar rows p : Nat))] ∧ os = []) := by
  obtain ⟨i1, i2, _⟩ := rng_i64 ar rows p hl
  refine leaf_afn (fnOK (by kernel_rfl)) (fun _ _ => cvTwo i1 i2) ?_
  rintro w G _ ⟨v1, _, rfl, h1, v2, _, rfl, h2, rfl⟩ hC
  obtain ⟨a, n, c, rfl, har, hI⟩ := cv_rel hC h1
  obtain ⟨pa, pn, pc, rfl, hP⟩ := cv_ints hC h2
  exact specRange ar a n c rows pa pn pc p w hI (Nat.le_refl _) har hP (Nat.le_refl _)
theorem implCountA (hl : rows.length ≤ 1048576) : AFn 13 [.d (relD ar rows), .d (intsD p)] [] (fun r os => r = .d (.int (countF ar rows p)) ∧ os = []) := by
  obtain ⟨_, _, i3, i4⟩ := rng_i64 ar rows p hl
  refine leaf_afn (fnOK (by kernel_rfl)) (fun _ _ => cvInt.2 ⟨rfl, by unfold countF I64; omega⟩) ?_
  rintro w G _ ⟨v1, _, rfl, h1, v2, _, rfl, h2, rfl⟩ hC
  obtain ⟨a, n, c, rfl, har, hI⟩ := cv_rel hC h1
  obtain ⟨pa, pn, pc, rfl, hP⟩ := cv_ints hC h2
  exact implCount ar a n c rows pa pn pc p w hI (Nat.le_refl _) har hP (Nat.le_refl _)
theorem implChildA (hl : rows.length ≤ 1048576) : AFn 7 [.d (relD ar rows), .d (intsD p)] [] (fun r os => r = .d (intsD (childF ar rows p)) ∧ os = []) := by
  refine own_afn (fnOK (by kernel_rfl)) ?_
  rintro w G _ ⟨v1, _, rfl, h1, v2, _, rfl, h2, rfl⟩ hC
  obtain ⟨a, n, c, rfl, har, hI⟩ := cv_rel hC h1
  obtain ⟨pa, pn, pc, rfl, hP⟩ := cv_ints hC h2
  exact implChildren ar a n c rows pa pn pc p w hI (Nat.le_refl _) har hP (Nat.le_refl _) (by rw [← hI.len]; exact hl)
theorem specChildA (hl : rows.length ≤ 1048576) : AFn 11 [.d (relD ar rows), .d (intsD p)] [] (fun r os => r = .d (intsD (childF ar rows p)) ∧ os = []) := by
  refine own_afn (fnOK (by kernel_rfl)) ?_
  rintro w G _ ⟨v1, _, rfl, h1, v2, _, rfl, h2, rfl⟩ hC
  obtain ⟨a, n, c, rfl, har, hI⟩ := cv_rel hC h1
  obtain ⟨pa, pn, pc, rfl, hP⟩ := cv_ints hC h2
  exact specChildren ar a n c rows pa pn pc p w hI (Nat.le_refl _) har hP (Nat.le_refl _) (by rw [← hI.len]; exact hl)
theorem implAscA (xs : List Int) : AFn 12 [.d (intsD xs)] [] (fun r os => r = .d (.bool (ascB xs)) ∧ os = []) := by
  refine gives_afn (fnOK (by kernel_rfl)) (fun _ _ => cvBool.2 rfl) ?_
  rintro w G _ ⟨u, _, rfl, h1, rfl⟩ hC
  obtain ⟨a, n, c, rfl, hI⟩ := cv_ints hC h1
  exact implAsc a n c xs w hI
theorem same1 (xs : List Int) (hl : xs.length ≤ 1048576) : AFn 10 [.d (intsD xs), .d (intsD xs)] [] (fun r os => r = .d (.bool true) ∧ os = []) := by
  refine afn_of (rv := [.tmp 4]) tyT_ok Try.func10 rfl (by decide +kernel) Try.ntmps10 rfl (by simp) ?_
  repeat' (first | refine awp_seq ?_ | refine then_n ?_ | refine then_r ?_ | refine then_e ?_ | refine blk_n ?_ | refine blk_r ?_ | refine blk_e ?_ | refine blk_o (by decide) ?_ | refine awp_block ?_ | refine awp_skip ?_ | refine awp_exit ?_ | refine awp_ret ?_ | (apply awp_condB; (focus (simp (disch := (first | omega | (simp; omega))) only [go_sem, ↓reduceIte, Nat.reduceEqDiff, Nat.reduceLT, Nat.reduceAdd, Nat.reduceLeDiff, Nat.reduceMul, Nat.reduceBEq, Nat.reduceSub, reduceCtorEq, Int.reduceLE, Int.reduceNeg, Int.reduceLT, w64, intsD]; try exact rfl)); first | with_reducible refine condOf_t ?_ | with_reducible refine condOf_f ?_) | (refine awp_region' tyT_ok ?_; intro K hK) | (refine awp_draw tyT_ok (by kernel_rfl) (by kernel_rfl) ?_; intro K hK) | (with_reducible refine hK _ ?_; clear hK K) | ((first | with_reducible refine ka_id ?_ | with_reducible refine kd_id ?_ | refine aops_id ?_ | refine wops_id ?_); simp (disch := (first | omega | (simp; omega))) only [go_sem, ↓reduceIte, Nat.reduceEqDiff, Nat.reduceLT, Nat.reduceAdd, Nat.reduceLeDiff, Nat.reduceMul, Nat.reduceBEq, Nat.reduceSub, reduceCtorEq, Int.reduceLE, Int.reduceNeg, Int.reduceLT, w64, intsD]) | (with_reducible refine And.intro ?_ ?_; focus (first | with_reducible assumption | with_reducible rfl | omega | kernel_rfl | (simp; done) | (simp; omega))))
  refine awp_loopw (fun m s => ∃ k, m = xs.length - k ∧ k ≤ xs.length ∧ s = mkS [(0, .d (intsD xs)), (1, .d (intsD xs)), (5, .d (.int (k : Nat)))] []) ?_ ?_
  · refine ⟨_, _, ?_, 0, rfl, Nat.zero_le _, rfl⟩
    exact sleA
  · rintro m s ⟨k, rfl, hk, rfl⟩
    repeat' (first | refine awp_seq ?_ | refine then_n ?_ | refine then_r ?_ | refine then_e ?_ | refine blk_n ?_ | refine blk_r ?_ | refine blk_e ?_ | refine blk_o (by decide) ?_ | refine awp_block ?_ | refine awp_skip ?_ | refine awp_exit ?_ | refine awp_ret ?_ | (apply awp_condB; (focus (simp (disch := (first | omega | (simp; omega))) only [go_sem, ↓reduceIte, Nat.reduceEqDiff, Nat.reduceLT, Nat.reduceAdd, Nat.reduceLeDiff, Nat.reduceMul, Nat.reduceBEq, Nat.reduceSub, reduceCtorEq, Int.reduceLE, Int.reduceNeg, Int.reduceLT, w64, intsD]; try exact rfl)); first | with_reducible refine condOf_t ?_ | with_reducible refine condOf_f ?_) | (refine awp_region' tyT_ok ?_; intro K hK) | (refine awp_draw tyT_ok (by kernel_rfl) (by kernel_rfl) ?_; intro K hK) | (with_reducible refine hK _ ?_; clear hK K) | ((first | with_reducible refine ka_id ?_ | with_reducible refine kd_id ?_ | refine aops_id ?_ | refine wops_id ?_); simp (disch := (first | omega | (simp; omega))) only [go_sem, ↓reduceIte, Nat.reduceEqDiff, Nat.reduceLT, Nat.reduceAdd, Nat.reduceLeDiff, Nat.reduceMul, Nat.reduceBEq, Nat.reduceSub, reduceCtorEq, Int.reduceLE, Int.reduceNeg, Int.reduceLT, w64, intsD]) | (with_reducible refine And.intro ?_ ?_; focus (first | with_reducible assumption | with_reducible rfl | omega | kernel_rfl | (simp; done) | (simp; omega))))
    refine awp_if (p := (k : Int) < xs.length) (by simp (disch := (first | omega | (simp; omega))) only [go_sem, ↓reduceIte, Nat.reduceEqDiff, Nat.reduceLT, Nat.reduceAdd, Nat.reduceLeDiff, Nat.reduceMul, Nat.reduceBEq, Nat.reduceSub, reduceCtorEq, Int.reduceLE, Int.reduceNeg, Int.reduceLT, w64]) ?_ ?_ <;> intro hc
    · have hk2 : k < xs.length := by omega
      repeat' (first | refine awp_seq ?_ | refine then_n ?_ | refine then_r ?_ | refine then_e ?_ | refine blk_n ?_ | refine blk_r ?_ | refine blk_e ?_ | refine blk_o (by decide) ?_ | refine awp_block ?_ | refine awp_skip ?_ | refine awp_exit ?_ | refine awp_ret ?_ | (apply awp_condB; (focus (simp (disch := (first | omega | (simp; omega))) only [go_sem, ↓reduceIte, Nat.reduceEqDiff, Nat.reduceLT, Nat.reduceAdd, Nat.reduceLeDiff, Nat.reduceMul, Nat.reduceBEq, Nat.reduceSub, reduceCtorEq, Int.reduceLE, Int.reduceNeg, Int.reduceLT, w64, intsD]; try exact rfl)); first | with_reducible refine condOf_t ?_ | with_reducible refine condOf_f ?_) | (refine awp_region' tyT_ok ?_; intro K hK) | (refine awp_draw tyT_ok (by kernel_rfl) (by kernel_rfl) ?_; intro K hK) | (with_reducible refine hK _ ?_; clear hK K) | ((first | with_reducible refine ka_id ?_ | with_reducible refine kd_id ?_ | refine aops_id ?_ | refine wops_id ?_); simp (disch := (first | omega | (simp; omega))) only [go_sem, ↓reduceIte, Nat.reduceEqDiff, Nat.reduceLT, Nat.reduceAdd, Nat.reduceLeDiff, Nat.reduceMul, Nat.reduceBEq, Nat.reduceSub, reduceCtorEq, Int.reduceLE, Int.reduceNeg, Int.reduceLT, w64, intsD]) | (with_reducible refine And.intro ?_ ?_; focus (first | with_reducible assumption | with_reducible rfl | omega | kernel_rfl | (simp; done) | (simp; omega))))
      refine ⟨xs.length - (k + 1), _, by omega, ?_, k + 1, rfl, by omega, rfl⟩
      exact sleA
    · obtain rfl : k = xs.length := by omega
      repeat' (first | refine awp_seq ?_ | refine then_n ?_ | refine then_r ?_ | refine then_e ?_ | refine blk_n ?_ | refine blk_r ?_ | refine blk_e ?_ | refine blk_o (by decide) ?_ | refine awp_block ?_ | refine awp_skip ?_ | refine awp_exit ?_ | refine awp_ret ?_ | (apply awp_condB; (focus (simp (disch := (first | omega | (simp; omega))) only [go_sem, ↓reduceIte, Nat.reduceEqDiff, Nat.reduceLT, Nat.reduceAdd, Nat.reduceLeDiff, Nat.reduceMul, Nat.reduceBEq, Nat.reduceSub, reduceCtorEq, Int.reduceLE, Int.reduceNeg, Int.reduceLT, w64, intsD]; try exact rfl)); first | with_reducible refine condOf_t ?_ | with_reducible refine condOf_f ?_) | (refine awp_region' tyT_ok ?_; intro K hK) | (refine awp_draw tyT_ok (by kernel_rfl) (by kernel_rfl) ?_; intro K hK) | (with_reducible refine hK _ ?_; clear hK K) | ((first | with_reducible refine ka_id ?_ | with_reducible refine kd_id ?_ | refine aops_id ?_ | refine wops_id ?_); simp (disch := (first | omega | (simp; omega))) only [go_sem, ↓reduceIte, Nat.reduceEqDiff, Nat.reduceLT, Nat.reduceAdd, Nat.reduceLeDiff, Nat.reduceMul, Nat.reduceBEq, Nat.reduceSub, reduceCtorEq, Int.reduceLE, Int.reduceNeg, Int.reduceLT, w64, intsD]) | (with_reducible refine And.intro ?_ ?_; focus (first | with_reducible assumption | with_reducible rfl | omega | kernel_rfl | (simp; done) | (simp; omega))))
      (refine endA (r := .d (.bool true)) ?_)
      exact ⟨rfl, rfl⟩
end
theorem count_sub (ar : Int) (rows : List (List Int)) (p : List Int) : countF ar rows p = ((rangeHi ar rows p : Nat) : Int) - ((rangeLo ar rows p : Nat) : Int) := rfl
/-- how many rows a child has -/
noncomputable def gP (ar : Int) (rows : List (List Int)) (p : List Int) (v : Int) : Nat := rangeHi ar rows (p ++ [v]) - rangeLo ar rows (p ++ [v])
theorem gP_le (ar : Int) (rows : List (List Int)) (p : List Int) (h : rows.length ≤ 1048576) (v : Int) : gP ar rows p v ≤ 1048576 := by
  obtain ⟨_, _, r3, r4⟩ := rng_i64 ar rows (p ++ [v]) h
  unfold gP; omega
theorem count_gP (ar : Int) (rows : List (List Int)) (p : List Int) (v : Int) : countF ar rows (p ++ [v]) = ((gP ar rows p v : Nat) : Int) := by
  rw [count_sub]
  unfold gP
  have : rangeLo ar rows (p ++ [v]) ≤ rangeHi ar rows (p ++ [v]) := by
    unfold rangeLo rangeHi
    split
    · exact preHi_ge _ _
    · exact Nat.le_refl _
  omega
theorem sumL_le {g : Int → Nat} {B : Nat} (h : ∀ v, g v ≤ B) : ∀ l : List Int, sumL g l ≤ l.length * B
  | [] => by simp [sumL]
  | x :: l => by have := h x; have := sumL_le h l; simp only [sumL, List.length_cons, Nat.succ_mul]; omega
theorem child_len (ar : Int) (rows : List (List Int)) (p : List Int) (h : rows.length ≤ 1048576) : (childF ar rows p).length ≤ 1048576 := by
  by_cases hy : preOK ar rows p = true ∧ (p.length : Int) < ar
  · rw [childF_yes hy]
    have h2 := chTo_len (chAt rows (preLo rows p) p.length) (preHi rows p - preLo rows p)
    have h3 := preHi_le' rows p
    omega
  · rw [childF_no hy]; simp
end Go.Proofs.Ytpamedlmbopfjaa
