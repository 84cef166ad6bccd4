/- Words of a query: names of variables, lists of them, cutting at a sign; as plain lists of bytes. -/
import Derived.Test.YtalfldflnacpeaaD1
namespace Go.Proofs.Ytalfldflnacpeaa
set_option linter.unusedSimpArgs false
set_option linter.unusedVariables false
open Go.RowKit
/-- a string of these bytes -/
def bs (l : List UInt8) : ByteArray := ⟨l.toArray⟩
theorem bs_size (l : List UInt8) : (bs l).size = l.length := by simp [bs, ByteArray.size]
theorem bs_app (a b : List UInt8) : bs a ++ bs b = bs (a ++ b) := by
  apply ByteArray.ext
  simp [bs]
theorem bs_ext (l : List UInt8) (i j : Nat) : (bs l).extract i j = bs ((l.take j).drop i) := by
  apply ByteArray.ext
  simp [bs, ByteArray.data_extract, List.drop_take]
theorem bs_of (b : ByteArray) : b = bs b.data.toList := by
  apply ByteArray.ext
  simp [bs]
theorem bs_at (l : List UInt8) (i : Nat) : bAt (bs l) i = ((l.getD i 0).toNat : Int) := by
  simp [bAt, bs, List.getD]
theorem toList_loop (l : List UInt8) : ∀ (n i : Nat) (r : List UInt8), l.length - i = n → ByteArray.toList.loop (bs l) i r = r.reverse ++ l.drop i := by
  intro n
  induction n with
  | zero =>
    intro i r h
    rw [ByteArray.toList.loop]
    have hi : ¬ i < (bs l).size := by rw [bs_size]; omega
    rw [if_neg hi, List.drop_eq_nil_of_le (by omega)]
    simp
  | succ n ih =>
    intro i r h
    rw [ByteArray.toList.loop]
    have hl : i < l.length := by omega
    have hi : i < (bs l).size := by rw [bs_size]; exact hl
    rw [if_pos hi, ih (i + 1) _ (by omega)]
    have e : (bs l).get! i = l[i]'hl := by simp [bs, ByteArray.get!, hl]
    rw [e]
    simp only [List.reverse_cons, List.append_assoc, List.singleton_append]
    rw [List.getElem_cons_drop hl]
theorem bs_list (l : List UInt8) : (bs l).toList = l := by
  unfold ByteArray.toList
  rw [toList_loop l _ 0 [] rfl]
  simp
theorem strEq_bs (a b : List UInt8) : strEq (bs a) (bs b) = (a == b) := by unfold strEq; rw [bs_list, bs_list]
/-- the name of a variable -/
def vn (v : Int) : List UInt8 := if 0 ≤ v ∧ v ≤ 4 then [([88, 89, 90, 85, 86] : List UInt8).getD v.toNat 0] else []
def varsF (l : List Int) : List UInt8 := [40] ++ ((l.map vn).flatten ++ [41])
/-- the variables whose name is this letter -/
def letF (c : UInt8) (k : Nat) : List Int := ((List.range k).filter fun (v : Nat) => vn (v : Int) == [c]).map fun (v : Nat) => (v : Int)
def listF (s : List UInt8) : List Int := (s.map fun c => letF c 5).flatten
/-- cut at a sign: what is behind the last one and before the next, from the left; cur: what has been read since -/
def cutGo (c : UInt8) : List UInt8 → List UInt8 → List (List UInt8)
  | cur, [] => [cur]
  | cur, x :: l => if x = c then cur :: cutGo c [] l else cutGo c (cur ++ [x]) l
def cutF (s : List UInt8) (c : UInt8) : List (List UInt8) := cutGo c [] s
theorem specInB (x lo hi : Int) : AFn 54 [.d (.int x), .d (.int lo), .d (.int hi)] [] (fun r os => r = .d (.bool (decide (lo ≤ x ∧ x ≤ hi))) ∧ os = []) := by
  refine afn_of (rv := [.tmp 6]) tyT_ok Try.func54 rfl (by decide +kernel) Try.ntmps54 rfl (by simp) ?_
  by_cases h1 : lo ≤ x
  · have h1t : lo ≤ x ↔ True := iff_of_true h1 trivial
    repeat' (first | refine awp_seq ?_ | refine then_n ?_ | refine then_r ?_ | refine then_e ?_ | refine blk_n ?_ | refine blk_r ?_ | refine blk_e ?_ | refine blk_o (by decide) ?_ | refine awp_block ?_ | refine awp_skip ?_ | refine awp_exit ?_ | refine awp_ret ?_ | (apply awp_condB; (focus (simp (disch := (first | omega | (simp; omega))) only [go_sem, ↓reduceIte, Nat.reduceEqDiff, Nat.reduceLT, Nat.reduceAdd, Nat.reduceLeDiff, Nat.reduceMul, Nat.reduceBEq, Nat.reduceSub, reduceCtorEq, Int.reduceLE, Int.reduceNeg, Int.reduceLT, w64, h1t]; try exact rfl)); first | with_reducible refine condOf_t ?_ | with_reducible refine condOf_f ?_) | (refine awp_region' tyT_ok ?_; intro K hK) | (refine awp_draw tyT_ok (by kernel_rfl) (by kernel_rfl) ?_; intro K hK) | (with_reducible refine hK _ ?_; clear hK K) | ((first | with_reducible refine ka_id ?_ | with_reducible refine kd_id ?_ | with_reducible refine kc_id ?_ | refine aops_id ?_ | refine wops_id ?_ | refine wopsC_id ?_); simp (disch := (first | omega | (simp; omega))) only [go_sem, ↓reduceIte, Nat.reduceEqDiff, Nat.reduceLT, Nat.reduceAdd, Nat.reduceLeDiff, Nat.reduceMul, Nat.reduceBEq, Nat.reduceSub, reduceCtorEq, Int.reduceLE, Int.reduceNeg, Int.reduceLT, w64, h1t]) | (with_reducible refine And.intro ?_ ?_; focus (first | with_reducible assumption | with_reducible rfl | omega | kernel_rfl | (simp; done) | (simp; omega))))
    (refine endA (r := .d (.bool (decide (x ≤ hi)))) ?_)
    exact ⟨by simp [h1], rfl⟩
  · have h1t : lo ≤ x ↔ False := iff_of_false h1 id
    repeat' (first | refine awp_seq ?_ | refine then_n ?_ | refine then_r ?_ | refine then_e ?_ | refine blk_n ?_ | refine blk_r ?_ | refine blk_e ?_ | refine blk_o (by decide) ?_ | refine awp_block ?_ | refine awp_skip ?_ | refine awp_exit ?_ | refine awp_ret ?_ | (apply awp_condB; (focus (simp (disch := (first | omega | (simp; omega))) only [go_sem, ↓reduceIte, Nat.reduceEqDiff, Nat.reduceLT, Nat.reduceAdd, Nat.reduceLeDiff, Nat.reduceMul, Nat.reduceBEq, Nat.reduceSub, reduceCtorEq, Int.reduceLE, Int.reduceNeg, Int.reduceLT, w64, h1t]; try exact rfl)); first | with_reducible refine condOf_t ?_ | with_reducible refine condOf_f ?_) | (refine awp_region' tyT_ok ?_; intro K hK) | (refine awp_draw tyT_ok (by kernel_rfl) (by kernel_rfl) ?_; intro K hK) | (with_reducible refine hK _ ?_; clear hK K) | ((first | with_reducible refine ka_id ?_ | with_reducible refine kd_id ?_ | with_reducible refine kc_id ?_ | refine aops_id ?_ | refine wops_id ?_ | refine wopsC_id ?_); simp (disch := (first | omega | (simp; omega))) only [go_sem, ↓reduceIte, Nat.reduceEqDiff, Nat.reduceLT, Nat.reduceAdd, Nat.reduceLeDiff, Nat.reduceMul, Nat.reduceBEq, Nat.reduceSub, reduceCtorEq, Int.reduceLE, Int.reduceNeg, Int.reduceLT, w64, h1t]) | (with_reducible refine And.intro ?_ ?_; focus (first | with_reducible assumption | with_reducible rfl | omega | kernel_rfl | (simp; done) | (simp; omega))))
    (refine endA (r := .d (.bool false)) ?_)
    exact ⟨by simp [h1], rfl⟩
theorem vn_len (v : Int) : (vn v).length ≤ 1 := by unfold vn; split <;> simp
theorem varNameA (v : Int) : AFn 80 [.d (.int v)] [] (fun r os => r = .d (.str (bs (vn v))) ∧ os = []) := by
  refine afn_of (rv := [.tmp 2]) tyT_ok Try.func80 rfl (by decide +kernel) Try.ntmps80 rfl (by simp) ?_
  repeat' (first | refine awp_seq ?_ | refine then_n ?_ | refine then_r ?_ | refine then_e ?_ | refine blk_n ?_ | refine blk_r ?_ | refine blk_e ?_ | refine blk_o (by decide) ?_ | refine awp_block ?_ | refine awp_skip ?_ | refine awp_exit ?_ | refine awp_ret ?_ | (apply awp_condB; (focus (simp (disch := (first | omega | (simp; omega))) only [go_sem, ↓reduceIte, Nat.reduceEqDiff, Nat.reduceLT, Nat.reduceAdd, Nat.reduceLeDiff, Nat.reduceMul, Nat.reduceBEq, Nat.reduceSub, reduceCtorEq, Int.reduceLE, Int.reduceNeg, Int.reduceLT, w64]; try exact rfl)); first | with_reducible refine condOf_t ?_ | with_reducible refine condOf_f ?_) | (refine awp_region' tyT_ok ?_; intro K hK) | (refine awp_draw tyT_ok (by kernel_rfl) (by kernel_rfl) ?_; intro K hK) | (with_reducible refine hK _ ?_; clear hK K) | ((first | with_reducible refine ka_id ?_ | with_reducible refine kd_id ?_ | with_reducible refine kc_id ?_ | refine aops_id ?_ | refine wops_id ?_ | refine wopsC_id ?_); simp (disch := (first | omega | (simp; omega))) only [go_sem, ↓reduceIte, Nat.reduceEqDiff, Nat.reduceLT, Nat.reduceAdd, Nat.reduceLeDiff, Nat.reduceMul, Nat.reduceBEq, Nat.reduceSub, reduceCtorEq, Int.reduceLE, Int.reduceNeg, Int.reduceLT, w64]) | (with_reducible refine And.intro ?_ ?_; focus (first | with_reducible assumption | with_reducible rfl | omega | kernel_rfl | (simp; done) | (simp; omega))))
  (first | refine callA (specInB v 0 4) ?_ | refine callD (specInB v 0 4) ?_ | refine callE (specInB v 0 4) ?_ | refine callF (specInB v 0 4) ?_ ?_)
  by_cases h : 0 ≤ v ∧ v ≤ 4
  · have ht : (0 ≤ v ∧ v ≤ 4) ↔ True := iff_of_true h trivial
    have w1 : IntKind.i64.wrap (v + 1) = v + 1 := w64 (by omega)
    have hx : (ByteArray.mk #[88, 89, 90, 85, 86]).extract v.toNat (v + 1).toNat = bs (vn v) := by
      have h5 : v = 0 ∨ v = 1 ∨ v = 2 ∨ v = 3 ∨ v = 4 := by omega
      rcases h5 with rfl | rfl | rfl | rfl | rfl <;> rfl
    have hsz : (ByteArray.mk #[88, 89, 90, 85, 86]).size = 5 := rfl
    repeat' (first | refine awp_seq ?_ | refine then_n ?_ | refine then_r ?_ | refine then_e ?_ | refine blk_n ?_ | refine blk_r ?_ | refine blk_e ?_ | refine blk_o (by decide) ?_ | refine awp_block ?_ | refine awp_skip ?_ | refine awp_exit ?_ | refine awp_ret ?_ | (apply awp_condB; (focus (simp (disch := (first | omega | (simp; omega))) only [go_sem, ↓reduceIte, Nat.reduceEqDiff, Nat.reduceLT, Nat.reduceAdd, Nat.reduceLeDiff, Nat.reduceMul, Nat.reduceBEq, Nat.reduceSub, reduceCtorEq, Int.reduceLE, Int.reduceNeg, Int.reduceLT, w64, ht, w1, hx, hsz]; try exact rfl)); first | with_reducible refine condOf_t ?_ | with_reducible refine condOf_f ?_) | (refine awp_region' tyT_ok ?_; intro K hK) | (refine awp_draw tyT_ok (by kernel_rfl) (by kernel_rfl) ?_; intro K hK) | (with_reducible refine hK _ ?_; clear hK K) | ((first | with_reducible refine ka_id ?_ | with_reducible refine kd_id ?_ | with_reducible refine kc_id ?_ | refine aops_id ?_ | refine wops_id ?_ | refine wopsC_id ?_); simp (disch := (first | omega | (simp; omega))) only [go_sem, ↓reduceIte, Nat.reduceEqDiff, Nat.reduceLT, Nat.reduceAdd, Nat.reduceLeDiff, Nat.reduceMul, Nat.reduceBEq, Nat.reduceSub, reduceCtorEq, Int.reduceLE, Int.reduceNeg, Int.reduceLT, w64, ht, w1, hx, hsz]) | (with_reducible refine And.intro ?_ ?_; focus (first | with_reducible assumption | with_reducible rfl | omega | kernel_rfl | (simp; done) | (simp; omega))))
    (refine endA (r := .d (.str (bs (vn v)))) ?_)
    exact ⟨rfl, rfl⟩
  · have ht : (0 ≤ v ∧ v ≤ 4) ↔ False := iff_of_false h id
    repeat' (first | refine awp_seq ?_ | refine then_n ?_ | refine then_r ?_ | refine then_e ?_ | refine blk_n ?_ | refine blk_r ?_ | refine blk_e ?_ | refine blk_o (by decide) ?_ | refine awp_block ?_ | refine awp_skip ?_ | refine awp_exit ?_ | refine awp_ret ?_ | (apply awp_condB; (focus (simp (disch := (first | omega | (simp; omega))) only [go_sem, ↓reduceIte, Nat.reduceEqDiff, Nat.reduceLT, Nat.reduceAdd, Nat.reduceLeDiff, Nat.reduceMul, Nat.reduceBEq, Nat.reduceSub, reduceCtorEq, Int.reduceLE, Int.reduceNeg, Int.reduceLT, w64, ht]; try exact rfl)); first | with_reducible refine condOf_t ?_ | with_reducible refine condOf_f ?_) | (refine awp_region' tyT_ok ?_; intro K hK) | (refine awp_draw tyT_ok (by kernel_rfl) (by kernel_rfl) ?_; intro K hK) | (with_reducible refine hK _ ?_; clear hK K) | ((first | with_reducible refine ka_id ?_ | with_reducible refine kd_id ?_ | with_reducible refine kc_id ?_ | refine aops_id ?_ | refine wops_id ?_ | refine wopsC_id ?_); simp (disch := (first | omega | (simp; omega))) only [go_sem, ↓reduceIte, Nat.reduceEqDiff, Nat.reduceLT, Nat.reduceAdd, Nat.reduceLeDiff, Nat.reduceMul, Nat.reduceBEq, Nat.reduceSub, reduceCtorEq, Int.reduceLE, Int.reduceNeg, Int.reduceLT, w64, ht]) | (with_reducible refine And.intro ?_ ?_; focus (first | with_reducible assumption | with_reducible rfl | omega | kernel_rfl | (simp; done) | (simp; omega))))
    rw [show bs (vn v) = ByteArray.mk #[] from by unfold vn; rw [if_neg h]; rfl]
    (refine endA (r := .d (.str (ByteArray.mk #[]))) ?_)
    exact ⟨rfl, rfl⟩
theorem vns_len : ∀ l : List Int, ((l.map vn).flatten).length ≤ l.length
  | [] => by simp
  | x :: l => by have := vns_len l; have := vn_len x; simp only [List.map_cons, List.flatten_cons, List.length_append, List.length_cons]; omega
theorem l7VarsA (l : List Int) (hl : l.length ≤ 1000) : AFn 82 [.d (intsD l)] [] (fun r os => r = .d (.str (bs (varsF l))) ∧ os = []) := by
  refine afn_of (rv := [.tmp 2]) tyT_ok Try.func82 rfl (by decide +kernel) Try.ntmps82 rfl (by simp) ?_
  have c40 : ByteArray.mk #[40] = bs [40] := rfl
  have c41 : ByteArray.mk #[41] = bs [41] := rfl
  repeat' (first | refine awp_seq ?_ | refine then_n ?_ | refine then_r ?_ | refine then_e ?_ | refine blk_n ?_ | refine blk_r ?_ | refine blk_e ?_ | refine blk_o (by decide) ?_ | refine awp_block ?_ | refine awp_skip ?_ | refine awp_exit ?_ | refine awp_ret ?_ | (apply awp_condB; (focus (simp (disch := (first | omega | (simp; omega))) only [go_sem, ↓reduceIte, Nat.reduceEqDiff, Nat.reduceLT, Nat.reduceAdd, Nat.reduceLeDiff, Nat.reduceMul, Nat.reduceBEq, Nat.reduceSub, reduceCtorEq, Int.reduceLE, Int.reduceNeg, Int.reduceLT, w64, intsD, c40]; try exact rfl)); first | with_reducible refine condOf_t ?_ | with_reducible refine condOf_f ?_) | (refine awp_region' tyT_ok ?_; intro K hK) | (refine awp_draw tyT_ok (by kernel_rfl) (by kernel_rfl) ?_; intro K hK) | (with_reducible refine hK _ ?_; clear hK K) | ((first | with_reducible refine ka_id ?_ | with_reducible refine kd_id ?_ | with_reducible refine kc_id ?_ | refine aops_id ?_ | refine wops_id ?_ | refine wopsC_id ?_); simp (disch := (first | omega | (simp; omega))) only [go_sem, ↓reduceIte, Nat.reduceEqDiff, Nat.reduceLT, Nat.reduceAdd, Nat.reduceLeDiff, Nat.reduceMul, Nat.reduceBEq, Nat.reduceSub, reduceCtorEq, Int.reduceLE, Int.reduceNeg, Int.reduceLT, w64, intsD, c40]) | (with_reducible refine And.intro ?_ ?_; focus (first | with_reducible assumption | with_reducible rfl | omega | kernel_rfl | (simp; done) | (simp; omega))))
  refine awp_loopw (fun m s => ∃ (k : Nat) (t : List UInt8), m = l.length - k ∧ k ≤ l.length ∧ t = [40] ++ ((l.take k).map vn).flatten ∧ s = mkS [(0, .d (intsD l)), (3, .d (.str (bs t))), (4, .d (.int (k : Nat)))] []) ?_ ?_
  · refine ⟨_, _, ?_, 0, [40], rfl, Nat.zero_le _, rfl, rfl⟩
    exact sleA
  · rintro m s ⟨k, t, rfl, hk, ht, rfl⟩
    have htl : t.length ≤ 1001 := by
      have := vns_len (l.take k)
      rw [ht]; simp only [List.length_append, List.length_singleton]
      have : (l.take k).length ≤ 1000 := by simp; omega
      omega
    repeat' (first | refine awp_seq ?_ | refine then_n ?_ | refine then_r ?_ | refine then_e ?_ | refine blk_n ?_ | refine blk_r ?_ | refine blk_e ?_ | refine blk_o (by decide) ?_ | refine awp_block ?_ | refine awp_skip ?_ | refine awp_exit ?_ | refine awp_ret ?_ | (apply awp_condB; (focus (simp (disch := (first | omega | (simp; omega))) only [go_sem, ↓reduceIte, Nat.reduceEqDiff, Nat.reduceLT, Nat.reduceAdd, Nat.reduceLeDiff, Nat.reduceMul, Nat.reduceBEq, Nat.reduceSub, reduceCtorEq, Int.reduceLE, Int.reduceNeg, Int.reduceLT, w64, intsD]; try exact rfl)); first | with_reducible refine condOf_t ?_ | with_reducible refine condOf_f ?_) | (refine awp_region' tyT_ok ?_; intro K hK) | (refine awp_draw tyT_ok (by kernel_rfl) (by kernel_rfl) ?_; intro K hK) | (with_reducible refine hK _ ?_; clear hK K) | ((first | with_reducible refine ka_id ?_ | with_reducible refine kd_id ?_ | with_reducible refine kc_id ?_ | refine aops_id ?_ | refine wops_id ?_ | refine wopsC_id ?_); simp (disch := (first | omega | (simp; omega))) only [go_sem, ↓reduceIte, Nat.reduceEqDiff, Nat.reduceLT, Nat.reduceAdd, Nat.reduceLeDiff, Nat.reduceMul, Nat.reduceBEq, Nat.reduceSub, reduceCtorEq, Int.reduceLE, Int.reduceNeg, Int.reduceLT, w64, intsD]) | (with_reducible refine And.intro ?_ ?_; focus (first | with_reducible assumption | with_reducible rfl | omega | kernel_rfl | (simp; done) | (simp; omega))))
    refine awp_if (p := (k : Int) < l.length) (by simp (disch := (first | omega | (simp; omega))) only [go_sem, ↓reduceIte, Nat.reduceEqDiff, Nat.reduceLT, Nat.reduceAdd, Nat.reduceLeDiff, Nat.reduceMul, Nat.reduceBEq, Nat.reduceSub, reduceCtorEq, Int.reduceLE, Int.reduceNeg, Int.reduceLT, w64]) ?_ ?_ <;> intro hc
    · have hk2 : k < l.length := by omega
      have g0 : (l.map DV.int).getD k (.bool false) = .int (ix l k) := getDI hk2
      have hv := vn_len (ix l k)
      repeat' (first | refine awp_seq ?_ | refine then_n ?_ | refine then_r ?_ | refine then_e ?_ | refine blk_n ?_ | refine blk_r ?_ | refine blk_e ?_ | refine blk_o (by decide) ?_ | refine awp_block ?_ | refine awp_skip ?_ | refine awp_exit ?_ | refine awp_ret ?_ | (apply awp_condB; (focus (simp (disch := (first | omega | (simp; omega))) only [go_sem, ↓reduceIte, Nat.reduceEqDiff, Nat.reduceLT, Nat.reduceAdd, Nat.reduceLeDiff, Nat.reduceMul, Nat.reduceBEq, Nat.reduceSub, reduceCtorEq, Int.reduceLE, Int.reduceNeg, Int.reduceLT, w64, g0]; try exact rfl)); first | with_reducible refine condOf_t ?_ | with_reducible refine condOf_f ?_) | (refine awp_region' tyT_ok ?_; intro K hK) | (refine awp_draw tyT_ok (by kernel_rfl) (by kernel_rfl) ?_; intro K hK) | (with_reducible refine hK _ ?_; clear hK K) | ((first | with_reducible refine ka_id ?_ | with_reducible refine kd_id ?_ | with_reducible refine kc_id ?_ | refine aops_id ?_ | refine wops_id ?_ | refine wopsC_id ?_); simp (disch := (first | omega | (simp; omega))) only [go_sem, ↓reduceIte, Nat.reduceEqDiff, Nat.reduceLT, Nat.reduceAdd, Nat.reduceLeDiff, Nat.reduceMul, Nat.reduceBEq, Nat.reduceSub, reduceCtorEq, Int.reduceLE, Int.reduceNeg, Int.reduceLT, w64, g0]) | (with_reducible refine And.intro ?_ ?_; focus (first | with_reducible assumption | with_reducible rfl | omega | kernel_rfl | (simp; done) | (simp; omega))))
      (first | refine callA (varNameA (ix l k)) ?_ | refine callD (varNameA (ix l k)) ?_ | refine callE (varNameA (ix l k)) ?_ | refine callF (varNameA (ix l k)) ?_ ?_)
      repeat' (first | refine awp_seq ?_ | refine then_n ?_ | refine then_r ?_ | refine then_e ?_ | refine blk_n ?_ | refine blk_r ?_ | refine blk_e ?_ | refine blk_o (by decide) ?_ | refine awp_block ?_ | refine awp_skip ?_ | refine awp_exit ?_ | refine awp_ret ?_ | (apply awp_condB; (focus (simp (disch := (first | omega | (simp; omega))) only [go_sem, ↓reduceIte, Nat.reduceEqDiff, Nat.reduceLT, Nat.reduceAdd, Nat.reduceLeDiff, Nat.reduceMul, Nat.reduceBEq, Nat.reduceSub, reduceCtorEq, Int.reduceLE, Int.reduceNeg, Int.reduceLT, w64, bs_app, bs_size]; try exact rfl)); first | with_reducible refine condOf_t ?_ | with_reducible refine condOf_f ?_) | (refine awp_region' tyT_ok ?_; intro K hK) | (refine awp_draw tyT_ok (by kernel_rfl) (by kernel_rfl) ?_; intro K hK) | (with_reducible refine hK _ ?_; clear hK K) | ((first | with_reducible refine ka_id ?_ | with_reducible refine kd_id ?_ | with_reducible refine kc_id ?_ | refine aops_id ?_ | refine wops_id ?_ | refine wopsC_id ?_); simp (disch := (first | omega | (simp; omega))) only [go_sem, ↓reduceIte, Nat.reduceEqDiff, Nat.reduceLT, Nat.reduceAdd, Nat.reduceLeDiff, Nat.reduceMul, Nat.reduceBEq, Nat.reduceSub, reduceCtorEq, Int.reduceLE, Int.reduceNeg, Int.reduceLT, w64, bs_app, bs_size]) | (with_reducible refine And.intro ?_ ?_; focus (first | with_reducible assumption | with_reducible rfl | omega | kernel_rfl | (simp; done) | (simp; omega))))
      refine ⟨l.length - (k + 1), _, by omega, ?_, k + 1, t ++ vn (ix l k), rfl, by omega, ?_, rfl⟩
      · exact sleA
      · rw [ht, List.take_succ_eq_append_getElem hk2, List.map_append, List.flatten_append, ix_lt hk2]
        simp
    · obtain rfl : k = l.length := by omega
      rw [List.take_length] at ht
      repeat' (first | refine awp_seq ?_ | refine then_n ?_ | refine then_r ?_ | refine then_e ?_ | refine blk_n ?_ | refine blk_r ?_ | refine blk_e ?_ | refine blk_o (by decide) ?_ | refine awp_block ?_ | refine awp_skip ?_ | refine awp_exit ?_ | refine awp_ret ?_ | (apply awp_condB; (focus (simp (disch := (first | omega | (simp; omega))) only [go_sem, ↓reduceIte, Nat.reduceEqDiff, Nat.reduceLT, Nat.reduceAdd, Nat.reduceLeDiff, Nat.reduceMul, Nat.reduceBEq, Nat.reduceSub, reduceCtorEq, Int.reduceLE, Int.reduceNeg, Int.reduceLT, w64, c41, bs_app, bs_size]; try exact rfl)); first | with_reducible refine condOf_t ?_ | with_reducible refine condOf_f ?_) | (refine awp_region' tyT_ok ?_; intro K hK) | (refine awp_draw tyT_ok (by kernel_rfl) (by kernel_rfl) ?_; intro K hK) | (with_reducible refine hK _ ?_; clear hK K) | ((first | with_reducible refine ka_id ?_ | with_reducible refine kd_id ?_ | with_reducible refine kc_id ?_ | refine aops_id ?_ | refine wops_id ?_ | refine wopsC_id ?_); simp (disch := (first | omega | (simp; omega))) only [go_sem, ↓reduceIte, Nat.reduceEqDiff, Nat.reduceLT, Nat.reduceAdd, Nat.reduceLeDiff, Nat.reduceMul, Nat.reduceBEq, Nat.reduceSub, reduceCtorEq, Int.reduceLE, Int.reduceNeg, Int.reduceLT, w64, c41, bs_app, bs_size]) | (with_reducible refine And.intro ?_ ?_; focus (first | with_reducible assumption | with_reducible rfl | omega | kernel_rfl | (simp; done) | (simp; omega))))
      (refine endA (r := .d (.str (bs (t ++ [41])))) ?_)
      exact ⟨by rw [ht]; simp [varsF], rfl⟩
theorem letF_snoc (c : UInt8) (j : Nat) : letF c (j + 1) = letF c j ++ (if (vn (j : Int) == [c]) = true then [(j : Int)] else []) := by
  unfold letF
  rw [List.range_succ, List.filter_append, List.map_append]
  congr 1
  by_cases h : (vn (j : Int) == [c]) = true
  · simp [h]
  · simp [h]
theorem letF_len (c : UInt8) (j : Nat) : (letF c j).length ≤ j := by
  unfold letF
  rw [List.length_map]
  exact Nat.le_trans (List.length_filter_le ..) (by simp)
theorem listF_len : ∀ s : List UInt8, (listF s).length ≤ 5 * s.length
  | [] => by simp [listF]
  | c :: s => by
    have h1 := letF_len c 5
    have h2 := listF_len s
    simp only [listF] at h2
    simp only [listF, List.map_cons, List.flatten_cons, List.length_append, List.length_cons]
    omega
theorem l7ListA (s0 : List UInt8) (hl : s0.length ≤ 1000) : AFn 79 [.d (.str (bs s0))] [] (fun r os => r = .buf 0 3 1 ((listF s0).map .int) ∧ os = []) := by
  refine afn_of (rv := [.tmp 2]) tyT_ok Try.func79 rfl (by decide +kernel) Try.ntmps79 rfl (by simp) ?_
  repeat' (first | refine awp_seq ?_ | refine then_n ?_ | refine then_r ?_ | refine then_e ?_ | refine blk_n ?_ | refine blk_r ?_ | refine blk_e ?_ | refine blk_o (by decide) ?_ | refine awp_block ?_ | refine awp_skip ?_ | refine awp_exit ?_ | refine awp_ret ?_ | (apply awp_condB; (focus (simp (disch := (first | omega | (simp; omega))) only [go_sem, ↓reduceIte, Nat.reduceEqDiff, Nat.reduceLT, Nat.reduceAdd, Nat.reduceLeDiff, Nat.reduceMul, Nat.reduceBEq, Nat.reduceSub, reduceCtorEq, Int.reduceLE, Int.reduceNeg, Int.reduceLT, w64]; try exact rfl)); first | with_reducible refine condOf_t ?_ | with_reducible refine condOf_f ?_) | (refine awp_region' tyT_ok ?_; intro K hK) | (refine awp_draw tyT_ok (by kernel_rfl) (by kernel_rfl) ?_; intro K hK) | (with_reducible refine hK _ ?_; clear hK K) | ((first | with_reducible refine ka_id ?_ | with_reducible refine kd_id ?_ | with_reducible refine kc_id ?_ | refine aops_id ?_ | refine wops_id ?_ | refine wopsC_id ?_); simp (disch := (first | omega | (simp; omega))) only [go_sem, ↓reduceIte, Nat.reduceEqDiff, Nat.reduceLT, Nat.reduceAdd, Nat.reduceLeDiff, Nat.reduceMul, Nat.reduceBEq, Nat.reduceSub, reduceCtorEq, Int.reduceLE, Int.reduceNeg, Int.reduceLT, w64]) | (with_reducible refine And.intro ?_ ?_; focus (first | with_reducible assumption | with_reducible rfl | omega | kernel_rfl | (simp; done) | (simp; omega))))
  refine awp_loopw (fun m s => ∃ (k : Nat) (out : List Int), m = s0.length - k ∧ k ≤ s0.length ∧ out = listF (s0.take k) ∧ s = mkS [(0, .d (.str (bs s0))), (3, .buf 6 3 1 (out.map .int)), (4, .d (.int (k : Nat)))] []) ?_ ?_
  · refine ⟨_, _, ?_, 0, [], rfl, Nat.zero_le _, rfl, rfl⟩
    exact sleA
  · rintro m s ⟨k, out, rfl, hk, hout, rfl⟩
    have hol : out.length ≤ 5000 := by
      have := listF_len (s0.take k)
      have : (s0.take k).length ≤ 1000 := by simp; omega
      rw [hout]; omega
    repeat' (first | refine awp_seq ?_ | refine then_n ?_ | refine then_r ?_ | refine then_e ?_ | refine blk_n ?_ | refine blk_r ?_ | refine blk_e ?_ | refine blk_o (by decide) ?_ | refine awp_block ?_ | refine awp_skip ?_ | refine awp_exit ?_ | refine awp_ret ?_ | (apply awp_condB; (focus (simp (disch := (first | omega | (simp; omega))) only [go_sem, ↓reduceIte, Nat.reduceEqDiff, Nat.reduceLT, Nat.reduceAdd, Nat.reduceLeDiff, Nat.reduceMul, Nat.reduceBEq, Nat.reduceSub, reduceCtorEq, Int.reduceLE, Int.reduceNeg, Int.reduceLT, w64, bs_size]; try exact rfl)); first | with_reducible refine condOf_t ?_ | with_reducible refine condOf_f ?_) | (refine awp_region' tyT_ok ?_; intro K hK) | (refine awp_draw tyT_ok (by kernel_rfl) (by kernel_rfl) ?_; intro K hK) | (with_reducible refine hK _ ?_; clear hK K) | ((first | with_reducible refine ka_id ?_ | with_reducible refine kd_id ?_ | with_reducible refine kc_id ?_ | refine aops_id ?_ | refine wops_id ?_ | refine wopsC_id ?_); simp (disch := (first | omega | (simp; omega))) only [go_sem, ↓reduceIte, Nat.reduceEqDiff, Nat.reduceLT, Nat.reduceAdd, Nat.reduceLeDiff, Nat.reduceMul, Nat.reduceBEq, Nat.reduceSub, reduceCtorEq, Int.reduceLE, Int.reduceNeg, Int.reduceLT, w64, bs_size]) | (with_reducible refine And.intro ?_ ?_; focus (first | with_reducible assumption | with_reducible rfl | omega | kernel_rfl | (simp; done) | (simp; omega))))
    refine awp_if (p := (k : Int) < s0.length) (by simp (disch := (first | omega | (simp; omega))) only [go_sem, ↓reduceIte, Nat.reduceEqDiff, Nat.reduceLT, Nat.reduceAdd, Nat.reduceLeDiff, Nat.reduceMul, Nat.reduceBEq, Nat.reduceSub, reduceCtorEq, Int.reduceLE, Int.reduceNeg, Int.reduceLT, w64, bs_size]) ?_ ?_ <;> intro hc
    · have hk2 : k < s0.length := by omega
      obtain ⟨c, hcc⟩ : ∃ c, c = s0[k] := ⟨_, rfl⟩
      have hx : (bs s0).extract k (k + 1) = bs [c] := by
        rw [bs_ext, List.take_succ_eq_append_getElem hk2, List.drop_append_of_le_length (by simp; omega), List.drop_of_length_le (by simp; omega), hcc]
        rfl
      have w1 : IntKind.i64.wrap ((k : Int) + 1) = ((k + 1 : Nat) : Int) := by rw [w64 (by omega)]; omega
      repeat' (first | refine awp_seq ?_ | refine then_n ?_ | refine then_r ?_ | refine then_e ?_ | refine blk_n ?_ | refine blk_r ?_ | refine blk_e ?_ | refine blk_o (by decide) ?_ | refine awp_block ?_ | refine awp_skip ?_ | refine awp_exit ?_ | refine awp_ret ?_ | (apply awp_condB; (focus (simp (disch := (first | omega | (simp; omega))) only [go_sem, ↓reduceIte, Nat.reduceEqDiff, Nat.reduceLT, Nat.reduceAdd, Nat.reduceLeDiff, Nat.reduceMul, Nat.reduceBEq, Nat.reduceSub, reduceCtorEq, Int.reduceLE, Int.reduceNeg, Int.reduceLT, w64]; try exact rfl)); first | with_reducible refine condOf_t ?_ | with_reducible refine condOf_f ?_) | (refine awp_region' tyT_ok ?_; intro K hK) | (refine awp_draw tyT_ok (by kernel_rfl) (by kernel_rfl) ?_; intro K hK) | (with_reducible refine hK _ ?_; clear hK K) | ((first | with_reducible refine ka_id ?_ | with_reducible refine kd_id ?_ | with_reducible refine kc_id ?_ | refine aops_id ?_ | refine wops_id ?_ | refine wopsC_id ?_); simp (disch := (first | omega | (simp; omega))) only [go_sem, ↓reduceIte, Nat.reduceEqDiff, Nat.reduceLT, Nat.reduceAdd, Nat.reduceLeDiff, Nat.reduceMul, Nat.reduceBEq, Nat.reduceSub, reduceCtorEq, Int.reduceLE, Int.reduceNeg, Int.reduceLT, w64]) | (with_reducible refine And.intro ?_ ?_; focus (first | with_reducible assumption | with_reducible rfl | omega | kernel_rfl | (simp; done) | (simp; omega))))
      refine awp_loopw (fun m s => ∃ (j : Nat) (o2 : List Int), m = 5 - j ∧ j ≤ 5 ∧ o2 = out ++ letF c j ∧ s = mkS [(0, .d (.str (bs s0))), (3, .buf 6 3 1 (o2.map .int)), (4, .d (.int (k : Nat))), (5, .d (.int (j : Nat)))] []) ?_ ?_
      · refine ⟨_, _, ?_, 0, out, rfl, by omega, by simp [letF], rfl⟩
        exact sleA
      · rintro m s ⟨j, o2, rfl, hj, ho2, rfl⟩
        have hol2 : o2.length ≤ 5010 := by
          have := letF_len c j
          rw [ho2, List.length_append]; omega
        repeat' (first | refine awp_seq ?_ | refine then_n ?_ | refine then_r ?_ | refine then_e ?_ | refine blk_n ?_ | refine blk_r ?_ | refine blk_e ?_ | refine blk_o (by decide) ?_ | refine awp_block ?_ | refine awp_skip ?_ | refine awp_exit ?_ | refine awp_ret ?_ | (apply awp_condB; (focus (simp (disch := (first | omega | (simp; omega))) only [go_sem, ↓reduceIte, Nat.reduceEqDiff, Nat.reduceLT, Nat.reduceAdd, Nat.reduceLeDiff, Nat.reduceMul, Nat.reduceBEq, Nat.reduceSub, reduceCtorEq, Int.reduceLE, Int.reduceNeg, Int.reduceLT, w64]; try exact rfl)); first | with_reducible refine condOf_t ?_ | with_reducible refine condOf_f ?_) | (refine awp_region' tyT_ok ?_; intro K hK) | (refine awp_draw tyT_ok (by kernel_rfl) (by kernel_rfl) ?_; intro K hK) | (with_reducible refine hK _ ?_; clear hK K) | ((first | with_reducible refine ka_id ?_ | with_reducible refine kd_id ?_ | with_reducible refine kc_id ?_ | refine aops_id ?_ | refine wops_id ?_ | refine wopsC_id ?_); simp (disch := (first | omega | (simp; omega))) only [go_sem, ↓reduceIte, Nat.reduceEqDiff, Nat.reduceLT, Nat.reduceAdd, Nat.reduceLeDiff, Nat.reduceMul, Nat.reduceBEq, Nat.reduceSub, reduceCtorEq, Int.reduceLE, Int.reduceNeg, Int.reduceLT, w64]) | (with_reducible refine And.intro ?_ ?_; focus (first | with_reducible assumption | with_reducible rfl | omega | kernel_rfl | (simp; done) | (simp; omega))))
        refine awp_if (p := (j : Int) < 5) (by simp (disch := (first | omega | (simp; omega))) only [go_sem, ↓reduceIte, Nat.reduceEqDiff, Nat.reduceLT, Nat.reduceAdd, Nat.reduceLeDiff, Nat.reduceMul, Nat.reduceBEq, Nat.reduceSub, reduceCtorEq, Int.reduceLE, Int.reduceNeg, Int.reduceLT, w64]) ?_ ?_ <;> intro hc2
        · repeat' (first | refine awp_seq ?_ | refine then_n ?_ | refine then_r ?_ | refine then_e ?_ | refine blk_n ?_ | refine blk_r ?_ | refine blk_e ?_ | refine blk_o (by decide) ?_ | refine awp_block ?_ | refine awp_skip ?_ | refine awp_exit ?_ | refine awp_ret ?_ | (apply awp_condB; (focus (simp (disch := (first | omega | (simp; omega))) only [go_sem, ↓reduceIte, Nat.reduceEqDiff, Nat.reduceLT, Nat.reduceAdd, Nat.reduceLeDiff, Nat.reduceMul, Nat.reduceBEq, Nat.reduceSub, reduceCtorEq, Int.reduceLE, Int.reduceNeg, Int.reduceLT, w64]; try exact rfl)); first | with_reducible refine condOf_t ?_ | with_reducible refine condOf_f ?_) | (refine awp_region' tyT_ok ?_; intro K hK) | (refine awp_draw tyT_ok (by kernel_rfl) (by kernel_rfl) ?_; intro K hK) | (with_reducible refine hK _ ?_; clear hK K) | ((first | with_reducible refine ka_id ?_ | with_reducible refine kd_id ?_ | with_reducible refine kc_id ?_ | refine aops_id ?_ | refine wops_id ?_ | refine wopsC_id ?_); simp (disch := (first | omega | (simp; omega))) only [go_sem, ↓reduceIte, Nat.reduceEqDiff, Nat.reduceLT, Nat.reduceAdd, Nat.reduceLeDiff, Nat.reduceMul, Nat.reduceBEq, Nat.reduceSub, reduceCtorEq, Int.reduceLE, Int.reduceNeg, Int.reduceLT, w64]) | (with_reducible refine And.intro ?_ ?_; focus (first | with_reducible assumption | with_reducible rfl | omega | kernel_rfl | (simp; done) | (simp; omega))))
          (first | refine callA (varNameA (j : Nat)) ?_ | refine callD (varNameA (j : Nat)) ?_ | refine callE (varNameA (j : Nat)) ?_ | refine callF (varNameA (j : Nat)) ?_ ?_)
          cases hcv : (vn (j : Int) == [c]) with
          | true =>
            repeat' (first | refine awp_seq ?_ | refine then_n ?_ | refine then_r ?_ | refine then_e ?_ | refine blk_n ?_ | refine blk_r ?_ | refine blk_e ?_ | refine blk_o (by decide) ?_ | refine awp_block ?_ | refine awp_skip ?_ | refine awp_exit ?_ | refine awp_ret ?_ | (apply awp_condB; (focus (simp (disch := (first | omega | (simp; omega))) only [go_sem, ↓reduceIte, Nat.reduceEqDiff, Nat.reduceLT, Nat.reduceAdd, Nat.reduceLeDiff, Nat.reduceMul, Nat.reduceBEq, Nat.reduceSub, reduceCtorEq, Int.reduceLE, Int.reduceNeg, Int.reduceLT, w64, w1, hx, bs_size, strEq_bs, hcv]; try exact rfl)); first | with_reducible refine condOf_t ?_ | with_reducible refine condOf_f ?_) | (refine awp_region' tyT_ok ?_; intro K hK) | (refine awp_draw tyT_ok (by kernel_rfl) (by kernel_rfl) ?_; intro K hK) | (with_reducible refine hK _ ?_; clear hK K) | ((first | with_reducible refine ka_id ?_ | with_reducible refine kd_id ?_ | with_reducible refine kc_id ?_ | refine aops_id ?_ | refine wops_id ?_ | refine wopsC_id ?_); simp (disch := (first | omega | (simp; omega))) only [go_sem, ↓reduceIte, Nat.reduceEqDiff, Nat.reduceLT, Nat.reduceAdd, Nat.reduceLeDiff, Nat.reduceMul, Nat.reduceBEq, Nat.reduceSub, reduceCtorEq, Int.reduceLE, Int.reduceNeg, Int.reduceLT, w64, w1, hx, bs_size, strEq_bs, hcv]) | (with_reducible refine And.intro ?_ ?_; focus (first | with_reducible assumption | with_reducible rfl | omega | kernel_rfl | (simp; done) | (simp; omega))))
            refine ⟨5 - (j + 1), _, by omega, ?_, j + 1, o2 ++ [(j : Int)], rfl, by omega, ?_, rfl⟩
            · rw [List.map_append]
              exact sleA
            · rw [ho2, letF_snoc, if_pos hcv, List.append_assoc]
          | false =>
            repeat' (first | refine awp_seq ?_ | refine then_n ?_ | refine then_r ?_ | refine then_e ?_ | refine blk_n ?_ | refine blk_r ?_ | refine blk_e ?_ | refine blk_o (by decide) ?_ | refine awp_block ?_ | refine awp_skip ?_ | refine awp_exit ?_ | refine awp_ret ?_ | (apply awp_condB; (focus (simp (disch := (first | omega | (simp; omega))) only [go_sem, ↓reduceIte, Nat.reduceEqDiff, Nat.reduceLT, Nat.reduceAdd, Nat.reduceLeDiff, Nat.reduceMul, Nat.reduceBEq, Nat.reduceSub, reduceCtorEq, Int.reduceLE, Int.reduceNeg, Int.reduceLT, w64, w1, hx, bs_size, strEq_bs, hcv]; try exact rfl)); first | with_reducible refine condOf_t ?_ | with_reducible refine condOf_f ?_) | (refine awp_region' tyT_ok ?_; intro K hK) | (refine awp_draw tyT_ok (by kernel_rfl) (by kernel_rfl) ?_; intro K hK) | (with_reducible refine hK _ ?_; clear hK K) | ((first | with_reducible refine ka_id ?_ | with_reducible refine kd_id ?_ | with_reducible refine kc_id ?_ | refine aops_id ?_ | refine wops_id ?_ | refine wopsC_id ?_); simp (disch := (first | omega | (simp; omega))) only [go_sem, ↓reduceIte, Nat.reduceEqDiff, Nat.reduceLT, Nat.reduceAdd, Nat.reduceLeDiff, Nat.reduceMul, Nat.reduceBEq, Nat.reduceSub, reduceCtorEq, Int.reduceLE, Int.reduceNeg, Int.reduceLT, w64, w1, hx, bs_size, strEq_bs, hcv]) | (with_reducible refine And.intro ?_ ?_; focus (first | with_reducible assumption | with_reducible rfl | omega | kernel_rfl | (simp; done) | (simp; omega))))
            refine ⟨5 - (j + 1), _, by omega, ?_, j + 1, o2, rfl, by omega, ?_, rfl⟩
            · exact sleA
            · rw [ho2, letF_snoc, if_neg (by rw [hcv]; exact fun h => (nomatch h)), List.append_nil]
        · obtain rfl : j = 5 := by omega
          repeat' (first | refine awp_seq ?_ | refine then_n ?_ | refine then_r ?_ | refine then_e ?_ | refine blk_n ?_ | refine blk_r ?_ | refine blk_e ?_ | refine blk_o (by decide) ?_ | refine awp_block ?_ | refine awp_skip ?_ | refine awp_exit ?_ | refine awp_ret ?_ | (apply awp_condB; (focus (simp (disch := (first | omega | (simp; omega))) only [go_sem, ↓reduceIte, Nat.reduceEqDiff, Nat.reduceLT, Nat.reduceAdd, Nat.reduceLeDiff, Nat.reduceMul, Nat.reduceBEq, Nat.reduceSub, reduceCtorEq, Int.reduceLE, Int.reduceNeg, Int.reduceLT, w64, w1]; try exact rfl)); first | with_reducible refine condOf_t ?_ | with_reducible refine condOf_f ?_) | (refine awp_region' tyT_ok ?_; intro K hK) | (refine awp_draw tyT_ok (by kernel_rfl) (by kernel_rfl) ?_; intro K hK) | (with_reducible refine hK _ ?_; clear hK K) | ((first | with_reducible refine ka_id ?_ | with_reducible refine kd_id ?_ | with_reducible refine kc_id ?_ | refine aops_id ?_ | refine wops_id ?_ | refine wopsC_id ?_); simp (disch := (first | omega | (simp; omega))) only [go_sem, ↓reduceIte, Nat.reduceEqDiff, Nat.reduceLT, Nat.reduceAdd, Nat.reduceLeDiff, Nat.reduceMul, Nat.reduceBEq, Nat.reduceSub, reduceCtorEq, Int.reduceLE, Int.reduceNeg, Int.reduceLT, w64, w1]) | (with_reducible refine And.intro ?_ ?_; focus (first | with_reducible assumption | with_reducible rfl | omega | kernel_rfl | (simp; done) | (simp; omega))))
          refine ⟨s0.length - (k + 1), _, by omega, ?_, k + 1, o2, rfl, by omega, ?_, rfl⟩
          · exact sleA
          · rw [ho2, hout, List.take_succ_eq_append_getElem hk2, ← hcc]
            simp [listF]
    · obtain rfl : k = s0.length := by omega
      rw [List.take_length] at hout
      repeat' (first | refine awp_seq ?_ | refine then_n ?_ | refine then_r ?_ | refine then_e ?_ | refine blk_n ?_ | refine blk_r ?_ | refine blk_e ?_ | refine blk_o (by decide) ?_ | refine awp_block ?_ | refine awp_skip ?_ | refine awp_exit ?_ | refine awp_ret ?_ | (apply awp_condB; (focus (simp (disch := (first | omega | (simp; omega))) only [go_sem, ↓reduceIte, Nat.reduceEqDiff, Nat.reduceLT, Nat.reduceAdd, Nat.reduceLeDiff, Nat.reduceMul, Nat.reduceBEq, Nat.reduceSub, reduceCtorEq, Int.reduceLE, Int.reduceNeg, Int.reduceLT, w64]; try exact rfl)); first | with_reducible refine condOf_t ?_ | with_reducible refine condOf_f ?_) | (refine awp_region' tyT_ok ?_; intro K hK) | (refine awp_draw tyT_ok (by kernel_rfl) (by kernel_rfl) ?_; intro K hK) | (with_reducible refine hK _ ?_; clear hK K) | ((first | with_reducible refine ka_id ?_ | with_reducible refine kd_id ?_ | with_reducible refine kc_id ?_ | refine aops_id ?_ | refine wops_id ?_ | refine wopsC_id ?_); simp (disch := (first | omega | (simp; omega))) only [go_sem, ↓reduceIte, Nat.reduceEqDiff, Nat.reduceLT, Nat.reduceAdd, Nat.reduceLeDiff, Nat.reduceMul, Nat.reduceBEq, Nat.reduceSub, reduceCtorEq, Int.reduceLE, Int.reduceNeg, Int.reduceLT, w64]) | (with_reducible refine And.intro ?_ ?_; focus (first | with_reducible assumption | with_reducible rfl | omega | kernel_rfl | (simp; done) | (simp; omega))))
      refine end0 6 (.inr rfl) (by simp (disch := (first | omega | (simp; omega))) only [go_sem, ↓reduceIte, Nat.reduceEqDiff, Nat.reduceLT, Nat.reduceAdd, Nat.reduceLeDiff, Nat.reduceMul, Nat.reduceBEq, Nat.reduceSub, reduceCtorEq, Int.reduceLE, Int.reduceNeg, Int.reduceLT, w64]; rfl) (r := .buf 0 3 1 ((listF s0).map .int)) (by rw [← hout]; simp (disch := (first | omega | (simp; omega))) only [go_sem, ↓reduceIte, Nat.reduceEqDiff, Nat.reduceLT, Nat.reduceAdd, Nat.reduceLeDiff, Nat.reduceMul, Nat.reduceBEq, Nat.reduceSub, reduceCtorEq, Int.reduceLE, Int.reduceNeg, Int.reduceLT, w64]; exact .refl _) ⟨rfl, rfl⟩
end Go.Proofs.Ytalfldflnacpeaa
