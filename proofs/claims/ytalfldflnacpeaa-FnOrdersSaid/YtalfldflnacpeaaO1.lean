/- All orders: the plain law. -/
import Derived.Test.YtalfldflnacpeaaG1
import Derived.Test.YtalfldflnacpeaaG2
namespace Go.Proofs.Ytalfldflnacpeaa
set_option linter.unusedSimpArgs false
set_option linter.unusedVariables false
open Go.RowKit
/-- the list with one more of the numbers below v that it lacks -/
def extTo (l : List Int) (v : Nat) : List (List Int) := ((List.range v).filter fun (x : Nat) => decide ((x : Int) ∉ l)).map fun (x : Nat) => l ++ [(x : Int)]
theorem extTo_in {l : List Int} {v : Nat} (h : (v : Int) ∈ l) : extTo l (v + 1) = extTo l v := by
  simp [extTo, List.range_succ, List.filter_append, h]
theorem extTo_out {l : List Int} {v : Nat} (h : (v : Int) ∉ l) : extTo l (v + 1) = extTo l v ++ [l ++ [(v : Int)]] := by
  simp [extTo, List.range_succ, List.filter_append, h]
theorem extTo_len (l : List Int) (v : Nat) : (extTo l v).length ≤ v := by
  simp only [extTo, List.length_map]
  exact Nat.le_trans (List.length_filter_le _ _) (by simp)
theorem mem_extTo {l x : List Int} {v : Nat} (h : x ∈ extTo l v) : ∃ y : Nat, y < v ∧ (y : Int) ∉ l ∧ x = l ++ [(y : Int)] := by
  simp only [extTo, List.mem_map, List.mem_filter, List.mem_range, decide_eq_true_eq] at h
  obtain ⟨y, ⟨h1, h2⟩, rfl⟩ := h
  exact ⟨y, h1, h2, rfl⟩
def step (nv : Nat) (L : List (List Int)) : List (List Int) := L.flatMap fun l => extTo l nv
def lvl (nv : Nat) : Nat → List (List Int) → List (List Int)
  | 0, L => L
  | j + 1, L => lvl nv j (step nv L)
theorem step_app (nv : Nat) (A B : List (List Int)) : step nv (A ++ B) = step nv A ++ step nv B := by simp [step]
theorem lvl_succ (nv : Nat) : ∀ (j : Nat) (L : List (List Int)), lvl nv (j + 1) L = step nv (lvl nv j L)
  | 0, _ => rfl
  | j + 1, L => by
    show lvl nv (j + 1) (step nv L) = _
    rw [lvl_succ nv j]; rfl
theorem step_len {nv B : Nat} {L : List (List Int)} (h : L.length ≤ B) : (step nv L).length ≤ B * nv := by
  induction L generalizing B with
  | nil => simp [step]
  | cons l L ih =>
    simp only [List.length_cons] at h
    have := ih (B := B - 1) (by omega)
    have h2 := extTo_len l nv
    have e : step nv (l :: L) = extTo l nv ++ step nv L := by simp [step]
    rw [e, List.length_append]
    obtain ⟨C, rfl⟩ : ∃ C, B = C + 1 := ⟨B - 1, by omega⟩
    rw [Nat.add_sub_cancel] at this
    rw [Nat.add_mul, Nat.one_mul]
    omega
theorem lvl_len {nv : Nat} (hn : nv ≤ 5) : ∀ (j : Nat) {L : List (List Int)} {B : Nat}, L.length ≤ B → (lvl nv j L).length ≤ B * 5 ^ j
  | 0, L, B, h => by simpa [lvl] using h
  | j + 1, L, B, h => by
    have h1 : (step nv L).length ≤ B * 5 := Nat.le_trans (step_len h) (Nat.mul_le_mul_left _ hn)
    have := lvl_len hn j h1
    rw [show lvl nv (j + 1) L = lvl nv j (step nv L) from rfl, Nat.pow_succ]
    rw [Nat.mul_comm (5 ^ j) 5, ← Nat.mul_assoc]; exact this
theorem pow5 {j : Nat} (h : j ≤ 5) : 5 ^ j ≤ 3125 := Nat.le_trans (Nat.pow_le_pow_right (by omega) h) (by decide)
/-- what is in level k -/
def Lv (nv k : Nat) (x : List Int) : Prop := x.length = k ∧ (∀ i, i < k → 0 ≤ ix x i ∧ ix x i < nv) ∧ ∀ i j, i < j → j < k → ix x i ≠ ix x j
theorem Lv.ext {nv k y : Nat} {x : List Int} (h : Lv nv k x) (hy : y < nv) (hn : (y : Int) ∉ x) : Lv nv (k + 1) (x ++ [(y : Int)]) := by
  obtain ⟨h1, h2, h3⟩ := h
  have e1 : ∀ i, i < k → ix (x ++ [(y : Int)]) i = ix x i := fun i hi => by simp [ix, List.getElem?_append_left (show i < x.length by omega)]
  have e2 : ix (x ++ [(y : Int)]) k = y := by simp [ix, ← h1]
  refine ⟨by simp [h1], fun i hi => ?_, fun i j hij hj => ?_⟩
  · by_cases e : i = k
    · subst e; rw [e2]; omega
    · rw [e1 i (by omega)]; exact h2 i (by omega)
  · by_cases e : j = k
    · subst e
      rw [e1 i hij, e2]
      intro e3
      exact hn (mem_ix.2 ⟨i, by omega, e3⟩)
    · rw [e1 i (by omega), e1 j (by omega)]; exact h3 i j hij (by omega)
theorem lvl_in {nv : Nat} : ∀ (j k : Nat) {L : List (List Int)}, (∀ x ∈ L, Lv nv k x) → ∀ x ∈ lvl nv j L, Lv nv (k + j) x
  | 0, k, L, h, x, hx => h x hx
  | j + 1, k, L, h, x, hx => by
    have := lvl_in j (k + 1) (L := step nv L) (fun z hz => by
      simp only [step, List.mem_flatMap] at hz
      obtain ⟨l, hl, hz⟩ := hz
      obtain ⟨y, h1, h2, rfl⟩ := mem_extTo hz
      exact (h l hl).ext h1 h2) x hx
    rw [show k + (j + 1) = k + 1 + j by omega]; exact this
theorem lv0 (nv : Nat) : ∀ x ∈ [([] : List Int)], Lv nv 0 x := fun x hx => by
  rw [List.mem_singleton] at hx; subst hx
  exact ⟨rfl, fun i hi => absurd hi (Nat.not_lt_zero _), fun i j _ hj => absurd hj (Nat.not_lt_zero _)⟩
/-- the levels from the empty list on -/
abbrev lev (nv k : Nat) : List (List Int) := lvl nv k [[]]
theorem lev_in (nv k : Nat) : ∀ x ∈ lev nv k, Lv nv k x := by have := lvl_in k 0 (lv0 nv); simpa using this
theorem lev_len {nv k : Nat} (hn : nv ≤ 5) (hk : k ≤ 5) : (lev nv k).length ≤ 3125 := by
  have := lvl_len hn k (L := [[]]) (B := 1) (by simp)
  have := pow5 hk
  show (lvl nv k [[]]).length ≤ 3125
  omega
/- All orders: the program and the reference. -/
theorem rx_take' {l : List (List Int)} {k : Nat} (h : k < l.length) : l.take (k + 1) = l.take k ++ [rx l k] := by rw [List.take_succ_eq_append_getElem h, rx_lt h]
theorem getDR {f : List Int → DV} {l : List (List Int)} {i : Nat} {x : DV} (h : i < l.length) : (l.map f).getD i x = f (rx l i) := getDV h
noncomputable def aoF (nv : Int) (xs : List AtomD) (us : List Int) : List (List Int) := if qOK nv xs us = true then lev nv.toNat nv.toNat else []
theorem aoF_no {nv : Int} {xs : List AtomD} {us : List Int} (h : qOK nv xs us = false) : aoF nv xs us = [] := by simp [aoF, h]
theorem aoF_yes {nv : Int} {xs : List AtomD} {us : List Int} (h : qOK nv xs us = true) : aoF nv xs us = lev nv.toNat nv.toNat := by simp [aoF, h]
theorem step_snoc (n : Nat) {L : List (List Int)} {i : Nat} (h : i < L.length) : step n (L.take (i + 1)) = step n (L.take i) ++ extTo (rx L i) n := by
  rw [rx_take' h, step_app]; simp [step]
theorem extTo_nil (l : List Int) : extTo l 0 = [] := by simp [extTo]
section
variable (nv : Int) (xs : List AtomD) (us : List Int) (hn : NmOK xs)
include hn
set_option maxHeartbeats 1000000 in
theorem implAllA : AFn 34 [.d (queryD nv xs us)] [] (fun r os => r = .d (rowsW (aoF nv xs us)) ∧ os = []) := by
  refine afn_of (rv := [.tmp 2]) tyW_ok Try.func34 rfl (by decide +kernel) Try.ntmps34 rfl (by simp) ?_
  repeat' (first | refine awp_seq ?_ | refine then_n ?_ | refine then_r ?_ | refine then_e ?_ | refine blk_n ?_ | refine blk_r ?_ | refine blk_e ?_ | refine blk_o (by decide) ?_ | refine awp_block ?_ | refine awp_skip ?_ | refine awp_exit ?_ | refine awp_ret ?_ | (apply awp_condB; (focus (simp (disch := (first | omega | (simp; omega))) only [go_sem, ↓reduceIte, Nat.reduceEqDiff, Nat.reduceLT, Nat.reduceAdd, Nat.reduceLeDiff, Nat.reduceMul, Nat.reduceBEq, Nat.reduceSub, reduceCtorEq, Int.reduceLE, Int.reduceNeg, Int.reduceLT, w64, intsD]; try exact rfl)); first | with_reducible refine condOf_t ?_ | with_reducible refine condOf_f ?_) | (refine awp_region' tyW_ok ?_; intro K hK) | (refine awp_draw tyT_ok (by kernel_rfl) (by kernel_rfl) ?_; intro K hK) | (with_reducible refine hK _ ?_; clear hK K) | ((first | with_reducible refine ka_id ?_ | with_reducible refine kd_id ?_ | refine aops_id ?_ | refine wops_id ?_); simp (disch := (first | omega | (simp; omega))) only [go_sem, ↓reduceIte, Nat.reduceEqDiff, Nat.reduceLT, Nat.reduceAdd, Nat.reduceLeDiff, Nat.reduceMul, Nat.reduceBEq, Nat.reduceSub, reduceCtorEq, Int.reduceLE, Int.reduceNeg, Int.reduceLT, w64, intsD]) | (with_reducible refine And.intro ?_ ?_; focus (first | with_reducible assumption | with_reducible rfl | omega | kernel_rfl | (simp; done) | (simp; omega))))
  (first | refine callA (implValidQA nv xs us hn) ?_ | refine callD (implValidQA nv xs us hn) ?_ | refine callE (implValidQA nv xs us hn) ?_ | refine callF (implValidQA nv xs us hn) ?_ ?_)
  cases hq : qOK nv xs us with
  | false =>
    repeat' (first | refine awp_seq ?_ | refine then_n ?_ | refine then_r ?_ | refine then_e ?_ | refine blk_n ?_ | refine blk_r ?_ | refine blk_e ?_ | refine blk_o (by decide) ?_ | refine awp_block ?_ | refine awp_skip ?_ | refine awp_exit ?_ | refine awp_ret ?_ | (apply awp_condB; (focus (simp (disch := (first | omega | (simp; omega))) only [go_sem, ↓reduceIte, Nat.reduceEqDiff, Nat.reduceLT, Nat.reduceAdd, Nat.reduceLeDiff, Nat.reduceMul, Nat.reduceBEq, Nat.reduceSub, reduceCtorEq, Int.reduceLE, Int.reduceNeg, Int.reduceLT, w64, intsD]; try exact rfl)); first | with_reducible refine condOf_t ?_ | with_reducible refine condOf_f ?_) | (refine awp_region' tyW_ok ?_; intro K hK) | (refine awp_draw tyT_ok (by kernel_rfl) (by kernel_rfl) ?_; intro K hK) | (with_reducible refine hK _ ?_; clear hK K) | ((first | with_reducible refine ka_id ?_ | with_reducible refine kd_id ?_ | refine aops_id ?_ | refine wops_id ?_); simp (disch := (first | omega | (simp; omega))) only [go_sem, ↓reduceIte, Nat.reduceEqDiff, Nat.reduceLT, Nat.reduceAdd, Nat.reduceLeDiff, Nat.reduceMul, Nat.reduceBEq, Nat.reduceSub, reduceCtorEq, Int.reduceLE, Int.reduceNeg, Int.reduceLT, w64, intsD]) | (with_reducible refine And.intro ?_ ?_; focus (first | with_reducible assumption | with_reducible rfl | omega | kernel_rfl | (simp; done) | (simp; omega))))
    rw [aoF_no hq]
    (refine endA (r := .d (.wh 1 [])) ?_)
    exact ⟨rfl, rfl⟩
  | true =>
    obtain ⟨⟨⟨hnv0, hnv⟩, _, hx4⟩, _, hat, _⟩ := qOK_out hq
    obtain ⟨n, rfl⟩ : ∃ n : Nat, nv = n := ⟨nv.toNat, by omega⟩
    repeat' (first | refine awp_seq ?_ | refine then_n ?_ | refine then_r ?_ | refine then_e ?_ | refine blk_n ?_ | refine blk_r ?_ | refine blk_e ?_ | refine blk_o (by decide) ?_ | refine awp_block ?_ | refine awp_skip ?_ | refine awp_exit ?_ | refine awp_ret ?_ | (apply awp_condB; (focus (simp (disch := (first | omega | (simp; omega))) only [go_sem, ↓reduceIte, Nat.reduceEqDiff, Nat.reduceLT, Nat.reduceAdd, Nat.reduceLeDiff, Nat.reduceMul, Nat.reduceBEq, Nat.reduceSub, reduceCtorEq, Int.reduceLE, Int.reduceNeg, Int.reduceLT, w64, intsD]; try exact rfl)); first | with_reducible refine condOf_t ?_ | with_reducible refine condOf_f ?_) | (refine awp_region' tyW_ok ?_; intro K hK) | (refine awp_draw tyT_ok (by kernel_rfl) (by kernel_rfl) ?_; intro K hK) | (with_reducible refine hK _ ?_; clear hK K) | ((first | with_reducible refine ka_id ?_ | with_reducible refine kd_id ?_ | refine aops_id ?_ | refine wops_id ?_); simp (disch := (first | omega | (simp; omega))) only [go_sem, ↓reduceIte, Nat.reduceEqDiff, Nat.reduceLT, Nat.reduceAdd, Nat.reduceLeDiff, Nat.reduceMul, Nat.reduceBEq, Nat.reduceSub, reduceCtorEq, Int.reduceLE, Int.reduceNeg, Int.reduceLT, w64, intsD]) | (with_reducible refine And.intro ?_ ?_; focus (first | with_reducible assumption | with_reducible rfl | omega | kernel_rfl | (simp; done) | (simp; omega))))
    refine awp_loopw (fun m s => ∃ k, m = n - k ∧ k ≤ n ∧ s = mkS [(1, .ptr 1 0), (3, .d (rowsW (lev n k))), (4, .d (.int (k : Nat)))] [(1, [.d (.int (n : Nat)), .d (.sl 2 (xs.map atomDV)), .d (intsD us)])]) ?_ ?_
    · refine ⟨_, _, ?_, 0, rfl, Nat.zero_le _, rfl⟩
      (refine sle_mk ?_ ?_ <;> simp (disch := (first | omega | (simp; omega))) only [go_sem, ↓reduceIte, Nat.reduceEqDiff, Nat.reduceLT, Nat.reduceAdd, Nat.reduceLeDiff, Nat.reduceMul, Nat.reduceBEq, Nat.reduceSub, reduceCtorEq, Int.reduceLE, Int.reduceNeg, Int.reduceLT, w64, lev, lvl] <;> (repeat (first | refine And.intro ?_ ?_ | (first | with_reducible exact ALe.refl _ | with_reducible exact ALe.nil _ | with_reducible exact ALe.dd (dle_wh _ _) | with_reducible exact ALe.nl | with_reducible exact ALe.nilw _ | with_reducible exact ALe.bufw _ _ _ _ | with_reducible exact ALe.dd (dle_rel0 _) | with_reducible exact ALe.dd (dle_rowsV _) | with_reducible exact ALe.dd (dle_rowsW _) | with_reducible exact ALe.buf _ _ _ _ | (refine ale_int ?_; first | with_reducible assumption | with_reducible rfl | omega | kernel_rfl | (simp; done) | (simp; omega)) | (refine ale_bool ?_; first | with_reducible assumption | with_reducible rfl | omega | kernel_rfl | (simp; done) | (simp; omega)) | (refine ale_buf ?_; (first | rfl | (simp; done))) | (refine ale_bufd ?_; (first | rfl | (simp; done))) | (refine ale_bufw ?_; (first | rfl | (simp; done))) | (refine ale_sl ?_; (first | rfl | (simp; done))) | (refine ale_arr ?_; first | with_reducible assumption | with_reducible rfl | omega | kernel_rfl | (simp; done) | (simp; omega))) | (first | (refine ob_eq ?_; (first | rfl | (simp; done))) | (refine ob_les ?_; (repeat' (first | exact ALes.nil | refine ALes.cons ?_ ?_ | (first | with_reducible exact ALe.refl _ | with_reducible exact ALe.nil _ | with_reducible exact ALe.dd (dle_wh _ _) | with_reducible exact ALe.nl | with_reducible exact ALe.nilw _ | with_reducible exact ALe.bufw _ _ _ _ | with_reducible exact ALe.dd (dle_rel0 _) | with_reducible exact ALe.dd (dle_rowsV _) | with_reducible exact ALe.dd (dle_rowsW _) | with_reducible exact ALe.buf _ _ _ _ | (refine ale_int ?_; first | with_reducible assumption | with_reducible rfl | omega | kernel_rfl | (simp; done) | (simp; omega)) | (refine ale_bool ?_; first | with_reducible assumption | with_reducible rfl | omega | kernel_rfl | (simp; done) | (simp; omega)) | (refine ale_buf ?_; (first | rfl | (simp; done))) | (refine ale_bufd ?_; (first | rfl | (simp; done))) | (refine ale_bufw ?_; (first | rfl | (simp; done))) | (refine ale_sl ?_; (first | rfl | (simp; done))) | (refine ale_arr ?_; first | with_reducible assumption | with_reducible rfl | omega | kernel_rfl | (simp; done) | (simp; omega))))); done) | (refine ob_eq ?_)))))
    · rintro m s ⟨k, rfl, hk, rfl⟩
      have hll := lev_len (nv := n) (k := k) (by omega) (by omega)
      have hli := lev_in n k
      have hls : lev n (k + 1) = step n (lev n k) := lvl_succ n k _
      generalize hL : lev n k = L at hll hli hls ⊢
      repeat' (first | refine awp_seq ?_ | refine then_n ?_ | refine then_r ?_ | refine then_e ?_ | refine blk_n ?_ | refine blk_r ?_ | refine blk_e ?_ | refine blk_o (by decide) ?_ | refine awp_block ?_ | refine awp_skip ?_ | refine awp_exit ?_ | refine awp_ret ?_ | (apply awp_condB; (focus (simp (disch := (first | omega | (simp; omega))) only [go_sem, ↓reduceIte, Nat.reduceEqDiff, Nat.reduceLT, Nat.reduceAdd, Nat.reduceLeDiff, Nat.reduceMul, Nat.reduceBEq, Nat.reduceSub, reduceCtorEq, Int.reduceLE, Int.reduceNeg, Int.reduceLT, w64, intsD]; try exact rfl)); first | with_reducible refine condOf_t ?_ | with_reducible refine condOf_f ?_) | (refine awp_region' tyW_ok ?_; intro K hK) | (refine awp_draw tyT_ok (by kernel_rfl) (by kernel_rfl) ?_; intro K hK) | (with_reducible refine hK _ ?_; clear hK K) | ((first | with_reducible refine ka_id ?_ | with_reducible refine kd_id ?_ | refine aops_id ?_ | refine wops_id ?_); simp (disch := (first | omega | (simp; omega))) only [go_sem, ↓reduceIte, Nat.reduceEqDiff, Nat.reduceLT, Nat.reduceAdd, Nat.reduceLeDiff, Nat.reduceMul, Nat.reduceBEq, Nat.reduceSub, reduceCtorEq, Int.reduceLE, Int.reduceNeg, Int.reduceLT, w64, intsD]) | (with_reducible refine And.intro ?_ ?_; focus (first | with_reducible assumption | with_reducible rfl | omega | kernel_rfl | (simp; done) | (simp; omega))))
      refine awp_if (p := (k : Int) < (n : Nat)) (by simp (disch := (first | omega | (simp; omega))) only [go_sem, ↓reduceIte, Nat.reduceEqDiff, Nat.reduceLT, Nat.reduceAdd, Nat.reduceLeDiff, Nat.reduceMul, Nat.reduceBEq, Nat.reduceSub, reduceCtorEq, Int.reduceLE, Int.reduceNeg, Int.reduceLT, w64]) ?_ ?_ <;> intro hc
      · have hk2 : k < n := by omega
        repeat' (first | refine awp_seq ?_ | refine then_n ?_ | refine then_r ?_ | refine then_e ?_ | refine blk_n ?_ | refine blk_r ?_ | refine blk_e ?_ | refine blk_o (by decide) ?_ | refine awp_block ?_ | refine awp_skip ?_ | refine awp_exit ?_ | refine awp_ret ?_ | (apply awp_condB; (focus (simp (disch := (first | omega | (simp; omega))) only [go_sem, ↓reduceIte, Nat.reduceEqDiff, Nat.reduceLT, Nat.reduceAdd, Nat.reduceLeDiff, Nat.reduceMul, Nat.reduceBEq, Nat.reduceSub, reduceCtorEq, Int.reduceLE, Int.reduceNeg, Int.reduceLT, w64, intsD]; try exact rfl)); first | with_reducible refine condOf_t ?_ | with_reducible refine condOf_f ?_) | (refine awp_region' tyW_ok ?_; intro K hK) | (refine awp_draw tyT_ok (by kernel_rfl) (by kernel_rfl) ?_; intro K hK) | (with_reducible refine hK _ ?_; clear hK K) | ((first | with_reducible refine ka_id ?_ | with_reducible refine kd_id ?_ | refine aops_id ?_ | refine wops_id ?_); simp (disch := (first | omega | (simp; omega))) only [go_sem, ↓reduceIte, Nat.reduceEqDiff, Nat.reduceLT, Nat.reduceAdd, Nat.reduceLeDiff, Nat.reduceMul, Nat.reduceBEq, Nat.reduceSub, reduceCtorEq, Int.reduceLE, Int.reduceNeg, Int.reduceLT, w64, intsD]) | (with_reducible refine And.intro ?_ ?_; focus (first | with_reducible assumption | with_reducible rfl | omega | kernel_rfl | (simp; done) | (simp; omega))))
        refine awp_nilbuf 5 5 25 1 (by simp (disch := (first | omega | (simp; omega))) only [go_sem, ↓reduceIte, Nat.reduceEqDiff, Nat.reduceLT, Nat.reduceAdd, Nat.reduceLeDiff, Nat.reduceMul, Nat.reduceBEq, Nat.reduceSub, reduceCtorEq, Int.reduceLE, Int.reduceNeg, Int.reduceLT, w64]) ?_
        refine awp_loopw (fun m s => ∃ i, m = L.length - i ∧ i ≤ L.length ∧ s = mkS [(1, .ptr 1 0), (4, .d (.int (k : Nat))), (5, .buf 5 25 1 ((step n (L.take i)).map whD)), (20, .d (rowsW L)), (21, .d (.int (L.length : Nat))), (22, .d (.int (i : Nat)))] [(1, [.d (.int (n : Nat)), .d (.sl 2 (xs.map atomDV)), .d (intsD us)])]) ?_ ?_
        · refine ⟨_, _, ?_, 0, rfl, Nat.zero_le _, rfl⟩
          (refine sle_mk ?_ ?_ <;> simp (disch := (first | omega | (simp; omega))) only [go_sem, ↓reduceIte, Nat.reduceEqDiff, Nat.reduceLT, Nat.reduceAdd, Nat.reduceLeDiff, Nat.reduceMul, Nat.reduceBEq, Nat.reduceSub, reduceCtorEq, Int.reduceLE, Int.reduceNeg, Int.reduceLT, w64, step] <;> (repeat (first | refine And.intro ?_ ?_ | (first | with_reducible exact ALe.refl _ | with_reducible exact ALe.nil _ | with_reducible exact ALe.dd (dle_wh _ _) | with_reducible exact ALe.nl | with_reducible exact ALe.nilw _ | with_reducible exact ALe.bufw _ _ _ _ | with_reducible exact ALe.dd (dle_rel0 _) | with_reducible exact ALe.dd (dle_rowsV _) | with_reducible exact ALe.dd (dle_rowsW _) | with_reducible exact ALe.buf _ _ _ _ | (refine ale_int ?_; first | with_reducible assumption | with_reducible rfl | omega | kernel_rfl | (simp; done) | (simp; omega)) | (refine ale_bool ?_; first | with_reducible assumption | with_reducible rfl | omega | kernel_rfl | (simp; done) | (simp; omega)) | (refine ale_buf ?_; (first | rfl | (simp; done))) | (refine ale_bufd ?_; (first | rfl | (simp; done))) | (refine ale_bufw ?_; (first | rfl | (simp; done))) | (refine ale_sl ?_; (first | rfl | (simp; done))) | (refine ale_arr ?_; first | with_reducible assumption | with_reducible rfl | omega | kernel_rfl | (simp; done) | (simp; omega))) | (first | (refine ob_eq ?_; (first | rfl | (simp; done))) | (refine ob_les ?_; (repeat' (first | exact ALes.nil | refine ALes.cons ?_ ?_ | (first | with_reducible exact ALe.refl _ | with_reducible exact ALe.nil _ | with_reducible exact ALe.dd (dle_wh _ _) | with_reducible exact ALe.nl | with_reducible exact ALe.nilw _ | with_reducible exact ALe.bufw _ _ _ _ | with_reducible exact ALe.dd (dle_rel0 _) | with_reducible exact ALe.dd (dle_rowsV _) | with_reducible exact ALe.dd (dle_rowsW _) | with_reducible exact ALe.buf _ _ _ _ | (refine ale_int ?_; first | with_reducible assumption | with_reducible rfl | omega | kernel_rfl | (simp; done) | (simp; omega)) | (refine ale_bool ?_; first | with_reducible assumption | with_reducible rfl | omega | kernel_rfl | (simp; done) | (simp; omega)) | (refine ale_buf ?_; (first | rfl | (simp; done))) | (refine ale_bufd ?_; (first | rfl | (simp; done))) | (refine ale_bufw ?_; (first | rfl | (simp; done))) | (refine ale_sl ?_; (first | rfl | (simp; done))) | (refine ale_arr ?_; first | with_reducible assumption | with_reducible rfl | omega | kernel_rfl | (simp; done) | (simp; omega))))); done) | (refine ob_eq ?_)))))
        · rintro m s ⟨i, rfl, hi, rfl⟩
          have hsl : (step n (L.take i)).length ≤ 15625 := Nat.le_trans (step_len (B := 3125) (by simp; omega)) (by have := Nat.mul_le_mul_left 3125 (show n ≤ 5 by omega); omega)
          repeat' (first | refine awp_seq ?_ | refine then_n ?_ | refine then_r ?_ | refine then_e ?_ | refine blk_n ?_ | refine blk_r ?_ | refine blk_e ?_ | refine blk_o (by decide) ?_ | refine awp_block ?_ | refine awp_skip ?_ | refine awp_exit ?_ | refine awp_ret ?_ | (apply awp_condB; (focus (simp (disch := (first | omega | (simp; omega))) only [go_sem, ↓reduceIte, Nat.reduceEqDiff, Nat.reduceLT, Nat.reduceAdd, Nat.reduceLeDiff, Nat.reduceMul, Nat.reduceBEq, Nat.reduceSub, reduceCtorEq, Int.reduceLE, Int.reduceNeg, Int.reduceLT, w64, rowsW]; try exact rfl)); first | with_reducible refine condOf_t ?_ | with_reducible refine condOf_f ?_) | (refine awp_region' tyW_ok ?_; intro K hK) | (refine awp_draw tyT_ok (by kernel_rfl) (by kernel_rfl) ?_; intro K hK) | (with_reducible refine hK _ ?_; clear hK K) | ((first | with_reducible refine ka_id ?_ | with_reducible refine kd_id ?_ | refine aops_id ?_ | refine wops_id ?_); simp (disch := (first | omega | (simp; omega))) only [go_sem, ↓reduceIte, Nat.reduceEqDiff, Nat.reduceLT, Nat.reduceAdd, Nat.reduceLeDiff, Nat.reduceMul, Nat.reduceBEq, Nat.reduceSub, reduceCtorEq, Int.reduceLE, Int.reduceNeg, Int.reduceLT, w64, rowsW]) | (with_reducible refine And.intro ?_ ?_; focus (first | with_reducible assumption | with_reducible rfl | omega | kernel_rfl | (simp; done) | (simp; omega))))
          refine awp_if (p := (i : Int) < (L.length : Nat)) (by simp (disch := (first | omega | (simp; omega))) only [go_sem, ↓reduceIte, Nat.reduceEqDiff, Nat.reduceLT, Nat.reduceAdd, Nat.reduceLeDiff, Nat.reduceMul, Nat.reduceBEq, Nat.reduceSub, reduceCtorEq, Int.reduceLE, Int.reduceNeg, Int.reduceLT, w64]) ?_ ?_ <;> intro hc2
          · have hi2 : i < L.length := by omega
            have g0 : (L.map whD).getD i (.bool false) = whD (rx L i) := getDR hi2
            have hss := step_snoc n hi2
            have hlr := (hli (rx L i) (by rw [rx_lt hi2]; exact List.getElem_mem _)).1
            generalize rx L i = l at g0 hss hlr
            generalize step n (L.take i) = S at hsl hss ⊢
            repeat' (first | refine awp_seq ?_ | refine then_n ?_ | refine then_r ?_ | refine then_e ?_ | refine blk_n ?_ | refine blk_r ?_ | refine blk_e ?_ | refine blk_o (by decide) ?_ | refine awp_block ?_ | refine awp_skip ?_ | refine awp_exit ?_ | refine awp_ret ?_ | (apply awp_condB; (focus (simp (disch := (first | omega | (simp; omega))) only [go_sem, ↓reduceIte, Nat.reduceEqDiff, Nat.reduceLT, Nat.reduceAdd, Nat.reduceLeDiff, Nat.reduceMul, Nat.reduceBEq, Nat.reduceSub, reduceCtorEq, Int.reduceLE, Int.reduceNeg, Int.reduceLT, w64, rowsW, g0, whD]; try exact rfl)); first | with_reducible refine condOf_t ?_ | with_reducible refine condOf_f ?_) | (refine awp_region' tyW_ok ?_; intro K hK) | (refine awp_draw tyT_ok (by kernel_rfl) (by kernel_rfl) ?_; intro K hK) | (with_reducible refine hK _ ?_; clear hK K) | ((first | with_reducible refine ka_id ?_ | with_reducible refine kd_id ?_ | refine aops_id ?_ | refine wops_id ?_); simp (disch := (first | omega | (simp; omega))) only [go_sem, ↓reduceIte, Nat.reduceEqDiff, Nat.reduceLT, Nat.reduceAdd, Nat.reduceLeDiff, Nat.reduceMul, Nat.reduceBEq, Nat.reduceSub, reduceCtorEq, Int.reduceLE, Int.reduceNeg, Int.reduceLT, w64, rowsW, g0, whD]) | (with_reducible refine And.intro ?_ ?_; focus (first | with_reducible assumption | with_reducible rfl | omega | kernel_rfl | (simp; done) | (simp; omega))))
            refine awp_loopw (fun m s => ∃ v, m = n - v ∧ v ≤ n ∧ s = mkS [(1, .ptr 1 0), (4, .d (.int (k : Nat))), (5, .buf 5 25 1 ((S ++ extTo l v).map whD)), (7, .d (whD l)), (8, .d (.int (v : Nat))), (20, .d (rowsW L)), (21, .d (.int (L.length : Nat))), (22, .d (.int (i : Nat)))] [(1, [.d (.int (n : Nat)), .d (.sl 2 (xs.map atomDV)), .d (intsD us)])]) ?_ ?_
            · refine ⟨_, _, ?_, 0, rfl, Nat.zero_le _, rfl⟩
              rw [extTo_nil, List.append_nil]
              exact sleA
            · rintro m s ⟨v, rfl, hv, rfl⟩
              have hel := extTo_len l v
              have hb : ((S ++ extTo l v).map whD).length ≤ 16777215 := by simp; omega
              repeat' (first | refine awp_seq ?_ | refine then_n ?_ | refine then_r ?_ | refine then_e ?_ | refine blk_n ?_ | refine blk_r ?_ | refine blk_e ?_ | refine blk_o (by decide) ?_ | refine awp_block ?_ | refine awp_skip ?_ | refine awp_exit ?_ | refine awp_ret ?_ | (apply awp_condB; (focus (simp (disch := (first | omega | (simp; omega))) only [go_sem, ↓reduceIte, Nat.reduceEqDiff, Nat.reduceLT, Nat.reduceAdd, Nat.reduceLeDiff, Nat.reduceMul, Nat.reduceBEq, Nat.reduceSub, reduceCtorEq, Int.reduceLE, Int.reduceNeg, Int.reduceLT, w64, intsD]; try exact rfl)); first | with_reducible refine condOf_t ?_ | with_reducible refine condOf_f ?_) | (refine awp_region' tyW_ok ?_; intro K hK) | (refine awp_draw tyT_ok (by kernel_rfl) (by kernel_rfl) ?_; intro K hK) | (with_reducible refine hK _ ?_; clear hK K) | ((first | with_reducible refine ka_id ?_ | with_reducible refine kd_id ?_ | refine aops_id ?_ | refine wops_id ?_); simp (disch := (first | omega | (simp; omega))) only [go_sem, ↓reduceIte, Nat.reduceEqDiff, Nat.reduceLT, Nat.reduceAdd, Nat.reduceLeDiff, Nat.reduceMul, Nat.reduceBEq, Nat.reduceSub, reduceCtorEq, Int.reduceLE, Int.reduceNeg, Int.reduceLT, w64, intsD]) | (with_reducible refine And.intro ?_ ?_; focus (first | with_reducible assumption | with_reducible rfl | omega | kernel_rfl | (simp; done) | (simp; omega))))
              refine awp_if (p := (v : Int) < (n : Nat)) (by simp (disch := (first | omega | (simp; omega))) only [go_sem, ↓reduceIte, Nat.reduceEqDiff, Nat.reduceLT, Nat.reduceAdd, Nat.reduceLeDiff, Nat.reduceMul, Nat.reduceBEq, Nat.reduceSub, reduceCtorEq, Int.reduceLE, Int.reduceNeg, Int.reduceLT, w64]) ?_ ?_ <;> intro hc3
              · have hv2 : v < n := by omega
                repeat' (first | refine awp_seq ?_ | refine then_n ?_ | refine then_r ?_ | refine then_e ?_ | refine blk_n ?_ | refine blk_r ?_ | refine blk_e ?_ | refine blk_o (by decide) ?_ | refine awp_block ?_ | refine awp_skip ?_ | refine awp_exit ?_ | refine awp_ret ?_ | (apply awp_condB; (focus (simp (disch := (first | omega | (simp; omega))) only [go_sem, ↓reduceIte, Nat.reduceEqDiff, Nat.reduceLT, Nat.reduceAdd, Nat.reduceLeDiff, Nat.reduceMul, Nat.reduceBEq, Nat.reduceSub, reduceCtorEq, Int.reduceLE, Int.reduceNeg, Int.reduceLT, w64, intsD]; try exact rfl)); first | with_reducible refine condOf_t ?_ | with_reducible refine condOf_f ?_) | (refine awp_region' tyW_ok ?_; intro K hK) | (refine awp_draw tyT_ok (by kernel_rfl) (by kernel_rfl) ?_; intro K hK) | (with_reducible refine hK _ ?_; clear hK K) | ((first | with_reducible refine ka_id ?_ | with_reducible refine kd_id ?_ | refine aops_id ?_ | refine wops_id ?_); simp (disch := (first | omega | (simp; omega))) only [go_sem, ↓reduceIte, Nat.reduceEqDiff, Nat.reduceLT, Nat.reduceAdd, Nat.reduceLeDiff, Nat.reduceMul, Nat.reduceBEq, Nat.reduceSub, reduceCtorEq, Int.reduceLE, Int.reduceNeg, Int.reduceLT, w64, intsD]) | (with_reducible refine And.intro ?_ ?_; focus (first | with_reducible assumption | with_reducible rfl | omega | kernel_rfl | (simp; done) | (simp; omega))))
                (first | refine callA (hasIntA l v (by omega)) ?_ | refine callD (hasIntA l v (by omega)) ?_ | refine callE (hasIntA l v (by omega)) ?_ | refine callF (hasIntA l v (by omega)) ?_ ?_)
                by_cases hin : (v : Int) ∈ l
                · have e : decide ((v : Int) ∈ l) = true := decide_eq_true hin
                  rw [e]
                  repeat' (first | refine awp_seq ?_ | refine then_n ?_ | refine then_r ?_ | refine then_e ?_ | refine blk_n ?_ | refine blk_r ?_ | refine blk_e ?_ | refine blk_o (by decide) ?_ | refine awp_block ?_ | refine awp_skip ?_ | refine awp_exit ?_ | refine awp_ret ?_ | (apply awp_condB; (focus (simp (disch := (first | omega | (simp; omega))) only [go_sem, ↓reduceIte, Nat.reduceEqDiff, Nat.reduceLT, Nat.reduceAdd, Nat.reduceLeDiff, Nat.reduceMul, Nat.reduceBEq, Nat.reduceSub, reduceCtorEq, Int.reduceLE, Int.reduceNeg, Int.reduceLT, w64]; try exact rfl)); first | with_reducible refine condOf_t ?_ | with_reducible refine condOf_f ?_) | (refine awp_region' tyW_ok ?_; intro K hK) | (refine awp_draw tyT_ok (by kernel_rfl) (by kernel_rfl) ?_; intro K hK) | (with_reducible refine hK _ ?_; clear hK K) | ((first | with_reducible refine ka_id ?_ | with_reducible refine kd_id ?_ | refine aops_id ?_ | refine wops_id ?_); simp (disch := (first | omega | (simp; omega))) only [go_sem, ↓reduceIte, Nat.reduceEqDiff, Nat.reduceLT, Nat.reduceAdd, Nat.reduceLeDiff, Nat.reduceMul, Nat.reduceBEq, Nat.reduceSub, reduceCtorEq, Int.reduceLE, Int.reduceNeg, Int.reduceLT, w64]) | (with_reducible refine And.intro ?_ ?_; focus (first | with_reducible assumption | with_reducible rfl | omega | kernel_rfl | (simp; done) | (simp; omega))))
                  refine ⟨n - (v + 1), _, by omega, ?_, v + 1, rfl, by omega, rfl⟩
                  rw [extTo_in hin]
                  exact sleA
                · have e : decide ((v : Int) ∈ l) = false := decide_eq_false hin
                  rw [e]
                  repeat' (first | refine awp_seq ?_ | refine then_n ?_ | refine then_r ?_ | refine then_e ?_ | refine blk_n ?_ | refine blk_r ?_ | refine blk_e ?_ | refine blk_o (by decide) ?_ | refine awp_block ?_ | refine awp_skip ?_ | refine awp_exit ?_ | refine awp_ret ?_ | (apply awp_condB; (focus (simp (disch := (first | omega | (simp; omega))) only [go_sem, ↓reduceIte, Nat.reduceEqDiff, Nat.reduceLT, Nat.reduceAdd, Nat.reduceLeDiff, Nat.reduceMul, Nat.reduceBEq, Nat.reduceSub, reduceCtorEq, Int.reduceLE, Int.reduceNeg, Int.reduceLT, w64]; try exact rfl)); first | with_reducible refine condOf_t ?_ | with_reducible refine condOf_f ?_) | (refine awp_region' tyW_ok ?_; intro K hK) | (refine awp_draw tyT_ok (by kernel_rfl) (by kernel_rfl) ?_; intro K hK) | (with_reducible refine hK _ ?_; clear hK K) | ((first | with_reducible refine ka_id ?_ | with_reducible refine kd_id ?_ | refine aops_id ?_ | refine wops_id ?_); simp (disch := (first | omega | (simp; omega))) only [go_sem, ↓reduceIte, Nat.reduceEqDiff, Nat.reduceLT, Nat.reduceAdd, Nat.reduceLeDiff, Nat.reduceMul, Nat.reduceBEq, Nat.reduceSub, reduceCtorEq, Int.reduceLE, Int.reduceNeg, Int.reduceLT, w64]) | (with_reducible refine And.intro ?_ ?_; focus (first | with_reducible assumption | with_reducible rfl | omega | kernel_rfl | (simp; done) | (simp; omega))))
                  (first | refine callA (copyIntsA l (by omega)) ?_ | refine callD (copyIntsA l (by omega)) ?_ | refine callE (copyIntsA l (by omega)) ?_ | refine callF (copyIntsA l (by omega)) ?_ ?_)
                  repeat' (first | refine awp_seq ?_ | refine then_n ?_ | refine then_r ?_ | refine then_e ?_ | refine blk_n ?_ | refine blk_r ?_ | refine blk_e ?_ | refine blk_o (by decide) ?_ | refine awp_block ?_ | refine awp_skip ?_ | refine awp_exit ?_ | refine awp_ret ?_ | (apply awp_condB; (focus (simp (disch := (first | omega | (simp; omega))) only [go_sem, ↓reduceIte, Nat.reduceEqDiff, Nat.reduceLT, Nat.reduceAdd, Nat.reduceLeDiff, Nat.reduceMul, Nat.reduceBEq, Nat.reduceSub, reduceCtorEq, Int.reduceLE, Int.reduceNeg, Int.reduceLT, w64]; try exact rfl)); first | with_reducible refine condOf_t ?_ | with_reducible refine condOf_f ?_) | (refine awp_region' tyW_ok ?_; intro K hK) | (refine awp_draw tyT_ok (by kernel_rfl) (by kernel_rfl) ?_; intro K hK) | (with_reducible refine hK _ ?_; clear hK K) | ((first | with_reducible refine ka_id ?_ | with_reducible refine kd_id ?_ | refine aops_id ?_ | refine wops_id ?_); simp (disch := (first | omega | (simp; omega))) only [go_sem, ↓reduceIte, Nat.reduceEqDiff, Nat.reduceLT, Nat.reduceAdd, Nat.reduceLeDiff, Nat.reduceMul, Nat.reduceBEq, Nat.reduceSub, reduceCtorEq, Int.reduceLE, Int.reduceNeg, Int.reduceLT, w64]) | (with_reducible refine And.intro ?_ ?_; focus (first | with_reducible assumption | with_reducible rfl | omega | kernel_rfl | (simp; done) | (simp; omega))))
                  refine ⟨n - (v + 1), _, by omega, ?_, v + 1, rfl, by omega, rfl⟩
                  have e9 : (S ++ (extTo l v ++ [l ++ [(v : Int)]])).map whD = (S ++ extTo l v).map whD ++ [.wh 1 (l.map .int ++ [.int (v : Nat)])] := by simp
                  rw [extTo_out hin, e9]
                  exact sleA
              · obtain rfl : v = n := by omega
                repeat' (first | refine awp_seq ?_ | refine then_n ?_ | refine then_r ?_ | refine then_e ?_ | refine blk_n ?_ | refine blk_r ?_ | refine blk_e ?_ | refine blk_o (by decide) ?_ | refine awp_block ?_ | refine awp_skip ?_ | refine awp_exit ?_ | refine awp_ret ?_ | (apply awp_condB; (focus (simp (disch := (first | omega | (simp; omega))) only [go_sem, ↓reduceIte, Nat.reduceEqDiff, Nat.reduceLT, Nat.reduceAdd, Nat.reduceLeDiff, Nat.reduceMul, Nat.reduceBEq, Nat.reduceSub, reduceCtorEq, Int.reduceLE, Int.reduceNeg, Int.reduceLT, w64]; try exact rfl)); first | with_reducible refine condOf_t ?_ | with_reducible refine condOf_f ?_) | (refine awp_region' tyW_ok ?_; intro K hK) | (refine awp_draw tyT_ok (by kernel_rfl) (by kernel_rfl) ?_; intro K hK) | (with_reducible refine hK _ ?_; clear hK K) | ((first | with_reducible refine ka_id ?_ | with_reducible refine kd_id ?_ | refine aops_id ?_ | refine wops_id ?_); simp (disch := (first | omega | (simp; omega))) only [go_sem, ↓reduceIte, Nat.reduceEqDiff, Nat.reduceLT, Nat.reduceAdd, Nat.reduceLeDiff, Nat.reduceMul, Nat.reduceBEq, Nat.reduceSub, reduceCtorEq, Int.reduceLE, Int.reduceNeg, Int.reduceLT, w64]) | (with_reducible refine And.intro ?_ ?_; focus (first | with_reducible assumption | with_reducible rfl | omega | kernel_rfl | (simp; done) | (simp; omega))))
                refine ⟨L.length - (i + 1), _, by omega, ?_, i + 1, rfl, by omega, rfl⟩
                rw [hss]
                exact sleA
          · obtain rfl : i = L.length := by omega
            rw [List.take_length, ← hls]
            repeat' (first | refine awp_seq ?_ | refine then_n ?_ | refine then_r ?_ | refine then_e ?_ | refine blk_n ?_ | refine blk_r ?_ | refine blk_e ?_ | refine blk_o (by decide) ?_ | refine awp_block ?_ | refine awp_skip ?_ | refine awp_exit ?_ | refine awp_ret ?_ | (apply awp_condB; (focus (simp (disch := (first | omega | (simp; omega))) only [go_sem, ↓reduceIte, Nat.reduceEqDiff, Nat.reduceLT, Nat.reduceAdd, Nat.reduceLeDiff, Nat.reduceMul, Nat.reduceBEq, Nat.reduceSub, reduceCtorEq, Int.reduceLE, Int.reduceNeg, Int.reduceLT, w64]; try exact rfl)); first | with_reducible refine condOf_t ?_ | with_reducible refine condOf_f ?_) | (refine awp_region' tyW_ok ?_; intro K hK) | (refine awp_draw tyT_ok (by kernel_rfl) (by kernel_rfl) ?_; intro K hK) | (with_reducible refine hK _ ?_; clear hK K) | ((first | with_reducible refine ka_id ?_ | with_reducible refine kd_id ?_ | refine aops_id ?_ | refine wops_id ?_); simp (disch := (first | omega | (simp; omega))) only [go_sem, ↓reduceIte, Nat.reduceEqDiff, Nat.reduceLT, Nat.reduceAdd, Nat.reduceLeDiff, Nat.reduceMul, Nat.reduceBEq, Nat.reduceSub, reduceCtorEq, Int.reduceLE, Int.reduceNeg, Int.reduceLT, w64]) | (with_reducible refine And.intro ?_ ?_; focus (first | with_reducible assumption | with_reducible rfl | omega | kernel_rfl | (simp; done) | (simp; omega))))
            refine ⟨n - (k + 1), _, by omega, ?_, k + 1, rfl, by omega, rfl⟩
            exact sleA
      · obtain rfl : k = n := by omega
        repeat' (first | refine awp_seq ?_ | refine then_n ?_ | refine then_r ?_ | refine then_e ?_ | refine blk_n ?_ | refine blk_r ?_ | refine blk_e ?_ | refine blk_o (by decide) ?_ | refine awp_block ?_ | refine awp_skip ?_ | refine awp_exit ?_ | refine awp_ret ?_ | (apply awp_condB; (focus (simp (disch := (first | omega | (simp; omega))) only [go_sem, ↓reduceIte, Nat.reduceEqDiff, Nat.reduceLT, Nat.reduceAdd, Nat.reduceLeDiff, Nat.reduceMul, Nat.reduceBEq, Nat.reduceSub, reduceCtorEq, Int.reduceLE, Int.reduceNeg, Int.reduceLT, w64]; try exact rfl)); first | with_reducible refine condOf_t ?_ | with_reducible refine condOf_f ?_) | (refine awp_region' tyW_ok ?_; intro K hK) | (refine awp_draw tyT_ok (by kernel_rfl) (by kernel_rfl) ?_; intro K hK) | (with_reducible refine hK _ ?_; clear hK K) | ((first | with_reducible refine ka_id ?_ | with_reducible refine kd_id ?_ | refine aops_id ?_ | refine wops_id ?_); simp (disch := (first | omega | (simp; omega))) only [go_sem, ↓reduceIte, Nat.reduceEqDiff, Nat.reduceLT, Nat.reduceAdd, Nat.reduceLeDiff, Nat.reduceMul, Nat.reduceBEq, Nat.reduceSub, reduceCtorEq, Int.reduceLE, Int.reduceNeg, Int.reduceLT, w64]) | (with_reducible refine And.intro ?_ ?_; focus (first | with_reducible assumption | with_reducible rfl | omega | kernel_rfl | (simp; done) | (simp; omega))))
        (refine endA (r := .d (rowsW L)) ?_)
        exact ⟨by rw [aoF_yes hq, Int.toNat_natCast, hL], rfl⟩
end
end Go.Proofs.Ytalfldflnacpeaa
