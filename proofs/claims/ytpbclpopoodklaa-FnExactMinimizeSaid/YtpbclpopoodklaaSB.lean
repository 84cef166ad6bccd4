/- Lemmas for the proof of FnExactMaximize, part 25 of 56: no condition of their own. -/
import Derived.Test.YtpbclpopoodklaaSA
namespace Go.Proofs.Ytpbclpopoodklaa
set_option linter.unusedSimpArgs false
set_option linter.unusedVariables false
attribute [local go_sem ↓] reduceIte
attribute [local go_sem] Nat.reduceEqDiff Nat.reduceLT Nat.reduceAdd Nat.reduceLeDiff Nat.reduceMul Nat.reduceBEq Nat.reduceSub reduceCtorEq Int.reduceLE Int.reduceNeg Int.reduceLT
open Go.RowKit
theorem getDq {l:List RatD} {i:Nat} {x:DV} (h:i<l.length):(l.map ratDV).getD i x=ratDV (qx l i):=by simp [List.getD,qx,h]
theorem getDm {M:List (List RatD)} {i:Nat} {x:DV} (h:i<M.length):(M.map ratsD).getD i x=ratsD (mx M i):=by simp [List.getD,mx,h]
abbrev matD (M:List (List RatD)):DV:=.sl 1 (M.map ratsD)
def vL (l:List RatD):Bool:=l.all vR
theorem vL_yes {l:List RatD} (h:∀ j,j<l.length→vR (qx l j)=true):vL l=true:=by
  refine List.all_eq_true.2 fun x hx=>?_
  obtain ⟨i,hi,rfl⟩:=List.mem_iff_getElem.1 hx
  have:=h i hi
  rwa [qx_lt hi] at this
theorem vL_no {l:List RatD} {j:Nat} (hj:j<l.length) (h:vR (qx l j)=false):vL l=false:=by
  cases e:vL l with
  | false=>rfl
  | true =>
    have:=List.all_eq_true.1 e (qx l j) (by rw [qx_lt hj];exact List.getElem_mem _)
    rw [h] at this;cases this
theorem vL_at {l:List RatD} (h:vL l=true) {j:Nat} (hj:j<l.length):vR (qx l j)=true:=by
  rw [qx_lt hj];exact List.all_eq_true.1 h _ (List.getElem_mem _)
theorem withinR (x lo hi:Int):AFn 41 [.d (.int x),.d (.int lo),.d (.int hi)] [] (fun r os=>r=.d (.bool (decide (lo≤x∧x≤hi)))∧os=[]):=by
  refine afn_of (rv:=[.tmp 6]) tyT_ok Try.func41 rfl (by decide +kernel) Try.ntmps41 rfl (by simp) ?_
  by_cases h1:lo≤x
  · have h1t:lo≤x↔True:=iff_of_true h1 trivial
    repeat' (first | refine awp_seq ?_ | refine stp ?_ | refine blk_o (by decide) ?_ | (apply awp_condB;(focus (simp (disch:=(first | omega | (simp;omega))) only [go_sem,w64,h1t];try exact rfl));first | with_reducible refine condOf_t ?_ | with_reducible refine condOf_f ?_) | (refine awp_region' tyT_ok ?_;intro K hK) | (refine awp_drawA ?_;intro K hK) | (with_reducible refine hK _ ?_;clear hK K) | (refine stq ?_;simp (disch:=(first | omega | (simp;omega))) only [go_sem,w64,h1t]) | refine and_side ?_ | fail)
    (refine endA (r:=.d (.bool (decide (x≤hi)))) ?_)
    exact ⟨by simp [h1],rfl⟩
  · have h1f:lo≤x↔False:=iff_of_false h1 id
    repeat' (first | refine awp_seq ?_ | refine stp ?_ | refine blk_o (by decide) ?_ | (apply awp_condB;(focus (simp (disch:=(first | omega | (simp;omega))) only [go_sem,w64,h1f];try exact rfl));first | with_reducible refine condOf_t ?_ | with_reducible refine condOf_f ?_) | (refine awp_region' tyT_ok ?_;intro K hK) | (refine awp_drawA ?_;intro K hK) | (with_reducible refine hK _ ?_;clear hK K) | (refine stq ?_;simp (disch:=(first | omega | (simp;omega))) only [go_sem,w64,h1f]) | refine and_side ?_ | fail)
    (refine endA (r:=.d (.bool false)) ?_)
    exact ⟨by simp [h1],rfl⟩
theorem inR (x lo hi:Int):AFn 34 [.d (.int x),.d (.int lo),.d (.int hi)] [] (fun r os=>r=.d (.bool (decide (lo≤x∧x≤hi)))∧os=[]):=by
  refine afn_of (rv:=[.tmp 6]) tyT_ok Try.func34 rfl (by decide +kernel) Try.ntmps34 rfl (by simp) ?_
  by_cases h1:lo≤x
  · have h1t:lo≤x↔True:=iff_of_true h1 trivial
    repeat' (first | refine awp_seq ?_ | refine stp ?_ | refine blk_o (by decide) ?_ | (apply awp_condB;(focus (simp (disch:=(first | omega | (simp;omega))) only [go_sem,w64,h1t];try exact rfl));first | with_reducible refine condOf_t ?_ | with_reducible refine condOf_f ?_) | (refine awp_region' tyT_ok ?_;intro K hK) | (refine awp_drawA ?_;intro K hK) | (with_reducible refine hK _ ?_;clear hK K) | (refine stq ?_;simp (disch:=(first | omega | (simp;omega))) only [go_sem,w64,h1t]) | refine and_side ?_ | fail)
    (refine endA (r:=.d (.bool (decide (x≤hi)))) ?_)
    exact ⟨by simp [h1],rfl⟩
  · have h1f:lo≤x↔False:=iff_of_false h1 id
    repeat' (first | refine awp_seq ?_ | refine stp ?_ | refine blk_o (by decide) ?_ | (apply awp_condB;(focus (simp (disch:=(first | omega | (simp;omega))) only [go_sem,w64,h1f];try exact rfl));first | with_reducible refine condOf_t ?_ | with_reducible refine condOf_f ?_) | (refine awp_region' tyT_ok ?_;intro K hK) | (refine awp_drawA ?_;intro K hK) | (with_reducible refine hK _ ?_;clear hK K) | (refine stq ?_;simp (disch:=(first | omega | (simp;omega))) only [go_sem,w64,h1f]) | refine and_side ?_ | fail)
    (refine endA (r:=.d (.bool false)) ?_)
    exact ⟨by simp [h1],rfl⟩
theorem allValidA (l:List RatD) (hl:l.length≤1048576):AFn 42 [.d (ratsD l)] [] (fun r os=>r=.d (.bool (vL l))∧os=[]):=by
  refine afn_of (rv:=[.tmp 2]) tyT_ok Try.func42 rfl (by decide +kernel) Try.ntmps42 rfl (by simp) ?_
  repeat' (first | refine awp_seq ?_ | refine stp ?_ | refine blk_o (by decide) ?_ | (apply awp_condB;(focus (simp (disch:=(first | omega | (simp;omega))) only [go_sem,w64,ratsD];try exact rfl));first | with_reducible refine condOf_t ?_ | with_reducible refine condOf_f ?_) | (refine awp_region' tyT_ok ?_;intro K hK) | (refine awp_drawA ?_;intro K hK) | (with_reducible refine hK _ ?_;clear hK K) | (refine stq ?_;simp (disch:=(first | omega | (simp;omega))) only [go_sem,w64,ratsD]) | refine and_side ?_ | fail)
  refine awp_loopw (fun m s=>∃ k,m=l.length - k∧k≤l.length∧(∀ j,j<k→vR (qx l j)=true)∧s=mkS [(5,.d (ratsD l)),(6,.d (.int (l.length:Nat))),(7,.d (.int (k:Nat)))] []) ?_ ?_
  · refine ⟨_,_,?_,0,rfl,Nat.zero_le _,fun j h=>absurd h (Nat.not_lt_zero _),rfl⟩
    (refine sle_mk ?_ ?_ <;> simp (disch:=(first | omega | (simp;omega))) only [go_sem,w64,ratsD] <;> exact leafs)
  · rintro m s ⟨k,rfl,hk,hd,rfl⟩
    repeat' (first | refine awp_seq ?_ | refine stp ?_ | refine blk_o (by decide) ?_ | (apply awp_condB;(focus (simp (disch:=(first | omega | (simp;omega))) only [go_sem,w64,ratsD];try exact rfl));first | with_reducible refine condOf_t ?_ | with_reducible refine condOf_f ?_) | (refine awp_region' tyT_ok ?_;intro K hK) | (refine awp_drawA ?_;intro K hK) | (with_reducible refine hK _ ?_;clear hK K) | (refine stq ?_;simp (disch:=(first | omega | (simp;omega))) only [go_sem,w64,ratsD]) | refine and_side ?_ | fail)
    refine awp_if (p:=(k:Int)<l.length) (by simp (disch:=(first | omega | (simp;omega))) only [go_sem,w64]) ?_ ?_ <;> intro hc
    · have hk2:k<l.length:=by omega
      repeat' (first | refine awp_seq ?_ | refine stp ?_ | refine blk_o (by decide) ?_ | (apply awp_condB;(focus (simp (disch:=(first | omega | (simp;omega))) only [go_sem,w64,ratsD,getDq,ratDV];try exact rfl));first | with_reducible refine condOf_t ?_ | with_reducible refine condOf_f ?_) | (refine awp_region' tyT_ok ?_;intro K hK) | (refine awp_drawA ?_;intro K hK) | (with_reducible refine hK _ ?_;clear hK K) | (refine stq ?_;simp (disch:=(first | omega | (simp;omega))) only [go_sem,w64,ratsD,getDq,ratDV]) | refine and_side ?_ | fail)
      (first | refine callA (implValidRA (qx l k)) ?_ | refine callD (implValidRA (qx l k)) ?_ | refine callE (implValidRA (qx l k)) ?_ | refine callF (implValidRA (qx l k)) ?_ ?_)
      cases hv:vR (qx l k) with
      | false =>
        repeat' (first | refine awp_seq ?_ | refine stp ?_ | refine blk_o (by decide) ?_ | (apply awp_condB;(focus (simp (disch:=(first | omega | (simp;omega))) only [go_sem,w64];try exact rfl));first | with_reducible refine condOf_t ?_ | with_reducible refine condOf_f ?_) | (refine awp_region' tyT_ok ?_;intro K hK) | (refine awp_drawA ?_;intro K hK) | (with_reducible refine hK _ ?_;clear hK K) | (refine stq ?_;simp (disch:=(first | omega | (simp;omega))) only [go_sem,w64]) | refine and_side ?_ | fail)
        (refine endA (r:=.d (.bool false)) ?_)
        exact ⟨by rw [vL_no hk2 hv],rfl⟩
      | true =>
        repeat' (first | refine awp_seq ?_ | refine stp ?_ | refine blk_o (by decide) ?_ | (apply awp_condB;(focus (simp (disch:=(first | omega | (simp;omega))) only [go_sem,w64];try exact rfl));first | with_reducible refine condOf_t ?_ | with_reducible refine condOf_f ?_) | (refine awp_region' tyT_ok ?_;intro K hK) | (refine awp_drawA ?_;intro K hK) | (with_reducible refine hK _ ?_;clear hK K) | (refine stq ?_;simp (disch:=(first | omega | (simp;omega))) only [go_sem,w64]) | refine and_side ?_ | fail)
        refine ⟨l.length - (k+1),_,by omega,?_,k+1,rfl,by omega,fun j hj=>?_,rfl⟩
        · (refine sle_mk ?_ ?_ <;> simp (disch:=(first | omega | (simp;omega))) only [go_sem,w64,ratsD] <;> exact leafs)
        · by_cases e:j=k
          · subst e;exact hv
          · exact hd j (by omega)
    · obtain rfl:k=l.length:=by omega
      repeat' (first | refine awp_seq ?_ | refine stp ?_ | refine blk_o (by decide) ?_ | (apply awp_condB;(focus (simp (disch:=(first | omega | (simp;omega))) only [go_sem,w64];try exact rfl));first | with_reducible refine condOf_t ?_ | with_reducible refine condOf_f ?_) | (refine awp_region' tyT_ok ?_;intro K hK) | (refine awp_drawA ?_;intro K hK) | (with_reducible refine hK _ ?_;clear hK K) | (refine stq ?_;simp (disch:=(first | omega | (simp;omega))) only [go_sem,w64]) | refine and_side ?_ | fail)
      (refine endA (r:=.d (.bool true)) ?_)
      exact ⟨by rw [vL_yes hd],rfl⟩
def rowV (m:Nat) (r:List RatD):Bool:=decide (r.length=m) && vL r
def matOK (M:List (List RatD)) (n m:Nat):Bool:=decide (M.length=n) && M.all (rowV m)
theorem matOK_rows {M:List (List RatD)} {m:Nat} (h:∀ j,j<M.length→rowV m (mx M j)=true):M.all (rowV m)=true:=by
  refine List.all_eq_true.2 fun x hx=>?_
  obtain ⟨i,hi,rfl⟩:=List.mem_iff_getElem.1 hx
  have:=h i hi
  rwa [mx_lt hi] at this
theorem matOK_no {M:List (List RatD)} {m j:Nat} (hj:j<M.length) (h:rowV m (mx M j)=false):M.all (rowV m)=false:=by
  cases e:M.all (rowV m) with
  | false=>rfl
  | true =>
    have:=List.all_eq_true.1 e (mx M j) (by rw [mx_lt hj];exact List.getElem_mem _)
    rw [h] at this;cases this
theorem matOK_out {M:List (List RatD)} {n m:Nat} (h:matOK M n m=true):M.length=n∧∀ i,i<M.length→(mx M i).length=m∧vL (mx M i)=true:=by
  simp only [matOK,Bool.and_eq_true,decide_eq_true_eq] at h
  refine ⟨h.1,fun i hi=>?_⟩
  have:=List.all_eq_true.1 h.2 (mx M i) (by rw [mx_lt hi];exact List.getElem_mem _)
  simpa [rowV] using this
set_option maxHeartbeats 1000000 in
theorem squareA (M:List (List RatD)) (n m:Nat) (hn:M.length≤1048576) (hm:m≤1048576) (hnn:n≤1048576):AFn 35 [.d (matD M),.d (.int n),.d (.int m)] [] (fun r os=>r=.d (.bool (matOK M n m))∧os=[]):=by
  refine afn_of (rv:=[.tmp 6]) tyT_ok Try.func35 rfl (by decide +kernel) Try.ntmps35 rfl (by simp) ?_
  repeat' (first | refine awp_seq ?_ | refine stp ?_ | refine blk_o (by decide) ?_ | (apply awp_condB;(focus (simp (disch:=(first | omega | (simp;omega))) only [go_sem,w64,matD];try exact rfl));first | with_reducible refine condOf_t ?_ | with_reducible refine condOf_f ?_) | (refine awp_region' tyT_ok ?_;intro K hK) | (refine awp_drawA ?_;intro K hK) | (with_reducible refine hK _ ?_;clear hK K) | (refine stq ?_;simp (disch:=(first | omega | (simp;omega))) only [go_sem,w64,matD]) | refine and_side ?_ | fail)
  refine awp_loopw (fun mm s=>∃ i,mm=M.length - i∧i≤M.length∧(∀ j,j<i→rowV m (mx M j)=true)∧s=mkS [(0,.d (matD M)),(1,.d (.int (n:Nat))),(2,.d (.int (m:Nat))),(7,.d (.int (i:Nat)))] []) ?_ ?_
  · refine ⟨_,_,?_,0,rfl,Nat.zero_le _,fun j h=>absurd h (Nat.not_lt_zero _),rfl⟩
    (refine sle_mk ?_ ?_ <;> simp (disch:=(first | omega | (simp;omega))) only [go_sem,w64,matD] <;> exact leafs)
  · rintro mm s ⟨i,rfl,hi,hd,rfl⟩
    repeat' (first | refine awp_seq ?_ | refine stp ?_ | refine blk_o (by decide) ?_ | (apply awp_condB;(focus (simp (disch:=(first | omega | (simp;omega))) only [go_sem,w64,matD];try exact rfl));first | with_reducible refine condOf_t ?_ | with_reducible refine condOf_f ?_) | (refine awp_region' tyT_ok ?_;intro K hK) | (refine awp_drawA ?_;intro K hK) | (with_reducible refine hK _ ?_;clear hK K) | (refine stq ?_;simp (disch:=(first | omega | (simp;omega))) only [go_sem,w64,matD]) | refine and_side ?_ | fail)
    refine awp_if (p:=(i:Int)<M.length) (by simp (disch:=(first | omega | (simp;omega))) only [go_sem,w64]) ?_ ?_ <;> intro hc
    · have hi2:i<M.length:=by omega
      have g0:(M.map ratsD).getD i (.bool false)=ratsD (mx M i):=getDm hi2
      by_cases hr:(((mx M i).length:Nat):Int)=(m:Nat)
      · have hr':(mx M i).length=m:=by omega
        have z1:decide ((((mx M i).length:Nat):Int)=(m:Nat))=true:=decide_eq_true hr
        repeat' (first | refine awp_seq ?_ | refine stp ?_ | refine blk_o (by decide) ?_ | (apply awp_condB;(focus (simp (disch:=(first | omega | (simp;omega))) only [go_sem,w64,matD,g0,ratsD,z1];try exact rfl));first | with_reducible refine condOf_t ?_ | with_reducible refine condOf_f ?_) | (refine awp_region' tyT_ok ?_;intro K hK) | (refine awp_drawA ?_;intro K hK) | (with_reducible refine hK _ ?_;clear hK K) | (refine stq ?_;simp (disch:=(first | omega | (simp;omega))) only [go_sem,w64,matD,g0,ratsD,z1]) | refine and_side ?_ | fail)
        refine awp_loopw (fun mm s=>∃ k,mm=m - k∧k≤m∧(∀ j,j<k→vR (qx (mx M i) j)=true)∧s=mkS [(0,.d (matD M)),(1,.d (.int (n:Nat))),(2,.d (.int (m:Nat))),(7,.d (.int (i:Nat))),(8,.d (.int (k:Nat)))] []) ?_ ?_
        · refine ⟨_,_,?_,0,rfl,Nat.zero_le _,fun j h=>absurd h (Nat.not_lt_zero _),rfl⟩
          (refine sle_mk ?_ ?_ <;> simp (disch:=(first | omega | (simp;omega))) only [go_sem,w64,matD] <;> exact leafs)
        · rintro mm s ⟨k,rfl,hk,hd2,rfl⟩
          repeat' (first | refine awp_seq ?_ | refine stp ?_ | refine blk_o (by decide) ?_ | (apply awp_condB;(focus (simp (disch:=(first | omega | (simp;omega))) only [go_sem,w64,matD];try exact rfl));first | with_reducible refine condOf_t ?_ | with_reducible refine condOf_f ?_) | (refine awp_region' tyT_ok ?_;intro K hK) | (refine awp_drawA ?_;intro K hK) | (with_reducible refine hK _ ?_;clear hK K) | (refine stq ?_;simp (disch:=(first | omega | (simp;omega))) only [go_sem,w64,matD]) | refine and_side ?_ | fail)
          refine awp_if (p:=(k:Int)<(m:Nat)) (by simp (disch:=(first | omega | (simp;omega))) only [go_sem,w64]) ?_ ?_ <;> intro hc2
          · have hk2:k<(mx M i).length:=by omega
            have g1:((mx M i).map ratDV).getD k (.bool false)=ratDV (qx (mx M i) k):=getDq hk2
            repeat' (first | refine awp_seq ?_ | refine stp ?_ | refine blk_o (by decide) ?_ | (apply awp_condB;(focus (simp (disch:=(first | omega | (simp;omega))) only [go_sem,w64,matD,g0,ratsD,g1,ratDV];try exact rfl));first | with_reducible refine condOf_t ?_ | with_reducible refine condOf_f ?_) | (refine awp_region' tyT_ok ?_;intro K hK) | (refine awp_drawA ?_;intro K hK) | (with_reducible refine hK _ ?_;clear hK K) | (refine stq ?_;simp (disch:=(first | omega | (simp;omega))) only [go_sem,w64,matD,g0,ratsD,g1,ratDV]) | refine and_side ?_ | fail)
            (first | refine callA (specValidRA (qx (mx M i) k)) ?_ | refine callD (specValidRA (qx (mx M i) k)) ?_ | refine callE (specValidRA (qx (mx M i) k)) ?_ | refine callF (specValidRA (qx (mx M i) k)) ?_ ?_)
            cases hv:vR (qx (mx M i) k) with
            | false =>
              repeat' (first | refine awp_seq ?_ | refine stp ?_ | refine blk_o (by decide) ?_ | (apply awp_condB;(focus (simp (disch:=(first | omega | (simp;omega))) only [go_sem,w64];try exact rfl));first | with_reducible refine condOf_t ?_ | with_reducible refine condOf_f ?_) | (refine awp_region' tyT_ok ?_;intro K hK) | (refine awp_drawA ?_;intro K hK) | (with_reducible refine hK _ ?_;clear hK K) | (refine stq ?_;simp (disch:=(first | omega | (simp;omega))) only [go_sem,w64]) | refine and_side ?_ | fail)
              (refine endA (r:=.d (.bool false)) ?_)
              exact ⟨by unfold matOK;rw [matOK_no hi2 (by unfold rowV;rw [vL_no hk2 hv,Bool.and_false]),Bool.and_false],rfl⟩
            | true =>
              repeat' (first | refine awp_seq ?_ | refine stp ?_ | refine blk_o (by decide) ?_ | (apply awp_condB;(focus (simp (disch:=(first | omega | (simp;omega))) only [go_sem,w64];try exact rfl));first | with_reducible refine condOf_t ?_ | with_reducible refine condOf_f ?_) | (refine awp_region' tyT_ok ?_;intro K hK) | (refine awp_drawA ?_;intro K hK) | (with_reducible refine hK _ ?_;clear hK K) | (refine stq ?_;simp (disch:=(first | omega | (simp;omega))) only [go_sem,w64]) | refine and_side ?_ | fail)
              refine ⟨m - (k+1),_,by omega,?_,k+1,rfl,by omega,fun j hj=>?_,rfl⟩
              · (refine sle_mk ?_ ?_ <;> simp (disch:=(first | omega | (simp;omega))) only [go_sem,w64,matD] <;> exact leafs)
              · by_cases e:j=k
                · subst e;exact hv
                · exact hd2 j (by omega)
          · obtain rfl:k=m:=by omega
            repeat' (first | refine awp_seq ?_ | refine stp ?_ | refine blk_o (by decide) ?_ | (apply awp_condB;(focus (simp (disch:=(first | omega | (simp;omega))) only [go_sem,w64];try exact rfl));first | with_reducible refine condOf_t ?_ | with_reducible refine condOf_f ?_) | (refine awp_region' tyT_ok ?_;intro K hK) | (refine awp_drawA ?_;intro K hK) | (with_reducible refine hK _ ?_;clear hK K) | (refine stq ?_;simp (disch:=(first | omega | (simp;omega))) only [go_sem,w64]) | refine and_side ?_ | fail)
            refine ⟨M.length - (i+1),_,by omega,?_,i+1,rfl,by omega,fun j hj=>?_,rfl⟩
            · (refine sle_mk ?_ ?_ <;> simp (disch:=(first | omega | (simp;omega))) only [go_sem,w64,matD] <;> exact leafs)
            · by_cases e:j=i
              · subst e
                unfold rowV
                rw [decide_eq_true hr',vL_yes (fun j hj=>hd2 j (by omega))];rfl
              · exact hd j (by omega)
      · have z1:decide ((((mx M i).length:Nat):Int)=(m:Nat))=false:=decide_eq_false hr
        repeat' (first | refine awp_seq ?_ | refine stp ?_ | refine blk_o (by decide) ?_ | (apply awp_condB;(focus (simp (disch:=(first | omega | (simp;omega))) only [go_sem,w64,matD,g0,ratsD,z1];try exact rfl));first | with_reducible refine condOf_t ?_ | with_reducible refine condOf_f ?_) | (refine awp_region' tyT_ok ?_;intro K hK) | (refine awp_drawA ?_;intro K hK) | (with_reducible refine hK _ ?_;clear hK K) | (refine stq ?_;simp (disch:=(first | omega | (simp;omega))) only [go_sem,w64,matD,g0,ratsD,z1]) | refine and_side ?_ | fail)
        (refine endA (r:=.d (.bool false)) ?_)
        exact ⟨by unfold matOK;rw [matOK_no hi2 (by unfold rowV;rw [decide_eq_false (by omega)];rfl),Bool.and_false],rfl⟩
    · obtain rfl:i=M.length:=by omega
      repeat' (first | refine awp_seq ?_ | refine stp ?_ | refine blk_o (by decide) ?_ | (apply awp_condB;(focus (simp (disch:=(first | omega | (simp;omega))) only [go_sem,w64,matD];try exact rfl));first | with_reducible refine condOf_t ?_ | with_reducible refine condOf_f ?_) | (refine awp_region' tyT_ok ?_;intro K hK) | (refine awp_drawA ?_;intro K hK) | (with_reducible refine hK _ ?_;clear hK K) | (refine stq ?_;simp (disch:=(first | omega | (simp;omega))) only [go_sem,w64,matD]) | refine and_side ?_ | fail)
      (refine endA (r:=.d (.bool (decide (((M.length:Nat):Int)=(n:Nat))))) ?_)
      refine ⟨?_,rfl⟩
      unfold matOK
      rw [matOK_rows hd,Bool.and_true]
      exact congrArg (fun b=>AV.d (.bool b)) (decide_eq_decide.2 ⟨fun h=>by omega,fun h=>by omega⟩)
def dotTo (a b:List RatD):Nat→Option RatD
  | 0=>some ⟨0,1⟩
  | k+1=>match dotTo a b k with
    | none=>none
    | some s=>if (mulQ (qx a k) (qx b k)).2.2=true∧(addQ s (rq (mulQ (qx a k) (qx b k)))).2.2=true then some (rq (addQ s (rq (mulQ (qx a k) (qx b k))))) else none
theorem dotTo_none {a b:List RatD} {k:Nat} (h:dotTo a b k=none):∀ j,k≤j→dotTo a b j=none:=by
  intro j hj
  induction hj with
  | refl=>exact h
  | step _ ih=>simp only [dotTo,ih]
def dotF (a b:List RatD):Option RatD:=if a.length=b.length then dotTo a b a.length else none
def ansQ:Option RatD→AV
  | some x=>.tup [.d (ratDV x),.d (.bool true)]
  | none=>.tup [.d (ratDV ⟨0,0⟩),.d (.bool false)]
set_option maxHeartbeats 1000000 in
theorem implDotA (a b:List RatD) (ha:a.length≤1048576) (hb:b.length≤1048576):AFn 52 [.d (ratsD a),.d (ratsD b)] [] (fun r os=>r=ansQ (dotF a b)∧os=[]):=by
  refine afn_of (rv:=[.cell 4 39,.tmp 5]) tyT_ok Try.func52 rfl (by decide +kernel) Try.ntmps52 rfl (by simp) ?_
  by_cases hl:((a.length:Nat):Int)=(b.length:Nat)
  · have z1:decide (((a.length:Nat):Int)=(b.length:Nat))=true:=decide_eq_true hl
    have hf:dotF a b=dotTo a b a.length:=if_pos (by omega)
    repeat' (first | refine awp_seq ?_ | refine stp ?_ | refine blk_o (by decide) ?_ | (apply awp_condB;(focus (simp (disch:=(first | omega | (simp;omega))) only [go_sem,w64,ratsD,z1];try exact rfl));first | with_reducible refine condOf_t ?_ | with_reducible refine condOf_f ?_) | (refine awp_region' tyT_ok ?_;intro K hK) | (refine awp_drawA ?_;intro K hK) | (with_reducible refine hK _ ?_;clear hK K) | (refine stq ?_;simp (disch:=(first | omega | (simp;omega))) only [go_sem,w64,ratsD,z1]) | refine and_side ?_ | fail)
    refine awp_loopw (fun mm s=>∃ k x,mm=a.length - k∧k≤a.length∧dotTo a b k=some x∧s=mkS [(0,.d (ratsD a)),(1,.d (ratsD b)),(4,.ptr 4 0),(6,.ptr 6 0),(20,.d (.int (a.length:Nat))),(21,.d (.int (k:Nat)))] [(4,[.d (.int 0),.d (.int 0)]),(6,[.d (.int x.num),.d (.int x.den)])]) ?_ ?_
    · refine ⟨_,_,?_,0,⟨0,1⟩,rfl,Nat.zero_le _,rfl,rfl⟩
      (refine sle_mk ?_ ?_ <;> simp (disch:=(first | omega | (simp;omega))) only [go_sem,w64,ratsD] <;> exact leafs)
    · rintro mm s ⟨k,x,rfl,hk,hx,rfl⟩
      repeat' (first | refine awp_seq ?_ | refine stp ?_ | refine blk_o (by decide) ?_ | (apply awp_condB;(focus (simp (disch:=(first | omega | (simp;omega))) only [go_sem,w64,ratsD];try exact rfl));first | with_reducible refine condOf_t ?_ | with_reducible refine condOf_f ?_) | (refine awp_region' tyT_ok ?_;intro K hK) | (refine awp_drawA ?_;intro K hK) | (with_reducible refine hK _ ?_;clear hK K) | (refine stq ?_;simp (disch:=(first | omega | (simp;omega))) only [go_sem,w64,ratsD]) | refine and_side ?_ | fail)
      refine awp_if (p:=(k:Int)<(a.length:Nat)) (by simp (disch:=(first | omega | (simp;omega))) only [go_sem,w64]) ?_ ?_ <;> intro hc
      · have hk2:k<a.length:=by omega
        have hk3:k<b.length:=by omega
        have g1:(a.map ratDV).getD k (.bool false)=ratDV (qx a k):=getDq hk2
        have g2:(b.map ratDV).getD k (.bool false)=ratDV (qx b k):=getDq hk3
        have hs:dotTo a b (k+1)=if (mulQ (qx a k) (qx b k)).2.2=true∧(addQ x (rq (mulQ (qx a k) (qx b k)))).2.2=true then some (rq (addQ x (rq (mulQ (qx a k) (qx b k))))) else none:=by simp only [dotTo,hx]
        repeat' (first | refine awp_seq ?_ | refine stp ?_ | refine blk_o (by decide) ?_ | (apply awp_condB;(focus (simp (disch:=(first | omega | (simp;omega))) only [go_sem,w64,ratsD,g1,g2,ratDV];try exact rfl));first | with_reducible refine condOf_t ?_ | with_reducible refine condOf_f ?_) | (refine awp_region' tyT_ok ?_;intro K hK) | (refine awp_drawA ?_;intro K hK) | (with_reducible refine hK _ ?_;clear hK K) | (refine stq ?_;simp (disch:=(first | omega | (simp;omega))) only [go_sem,w64,ratsD,g1,g2,ratDV]) | refine and_side ?_ | fail)
        (first | refine callA (implMulA (qx a k) (qx b k)) ?_ | refine callD (implMulA (qx a k) (qx b k)) ?_ | refine callE (implMulA (qx a k) (qx b k)) ?_ | refine callF (implMulA (qx a k) (qx b k)) ?_ ?_)
        generalize mulQ (qx a k) (qx b k)=p at hs ⊢
        repeat' (first | refine awp_seq ?_ | refine stp ?_ | refine blk_o (by decide) ?_ | (apply awp_condB;(focus (simp (disch:=(first | omega | (simp;omega))) only [go_sem,w64,ratsD,tupQ,ratDV];try exact rfl));first | with_reducible refine condOf_t ?_ | with_reducible refine condOf_f ?_) | (refine awp_region' tyT_ok ?_;intro K hK) | (refine awp_drawA ?_;intro K hK) | (with_reducible refine hK _ ?_;clear hK K) | (refine stq ?_;simp (disch:=(first | omega | (simp;omega))) only [go_sem,w64,ratsD,tupQ,ratDV]) | refine and_side ?_ | fail)
        (first | refine callA (implAddA x (rq p)) ?_ | refine callD (implAddA x (rq p)) ?_ | refine callE (implAddA x (rq p)) ?_ | refine callF (implAddA x (rq p)) ?_ ?_)
        generalize addQ x (rq p)=q at hs ⊢
        cases h1:p.2.2 with
        | false =>
          have hn:dotTo a b (k+1)=none:=by rw [hs,if_neg (by rw [h1];simp)]
          repeat' (first | refine awp_seq ?_ | refine stp ?_ | refine blk_o (by decide) ?_ | (apply awp_condB;(focus (simp (disch:=(first | omega | (simp;omega))) only [go_sem,w64,tupQ,ratDV,h1];try exact rfl));first | with_reducible refine condOf_t ?_ | with_reducible refine condOf_f ?_) | (refine awp_region' tyT_ok ?_;intro K hK) | (refine awp_drawA ?_;intro K hK) | (with_reducible refine hK _ ?_;clear hK K) | (refine stq ?_;simp (disch:=(first | omega | (simp;omega))) only [go_sem,w64,tupQ,ratDV,h1]) | refine and_side ?_ | fail)
          (refine endA (r:=.tup [.d (.agg [.int 0,.int 0]),.d (.bool false)]) ?_)
          exact ⟨by rw [hf,dotTo_none hn _ (by omega)];rfl,rfl⟩
        | true =>
          cases h2:q.2.2 with
          | false =>
            have hn:dotTo a b (k+1)=none:=by rw [hs,if_neg (by rw [h2];simp)]
            repeat' (first | refine awp_seq ?_ | refine stp ?_ | refine blk_o (by decide) ?_ | (apply awp_condB;(focus (simp (disch:=(first | omega | (simp;omega))) only [go_sem,w64,tupQ,ratDV,h1,h2];try exact rfl));first | with_reducible refine condOf_t ?_ | with_reducible refine condOf_f ?_) | (refine awp_region' tyT_ok ?_;intro K hK) | (refine awp_drawA ?_;intro K hK) | (with_reducible refine hK _ ?_;clear hK K) | (refine stq ?_;simp (disch:=(first | omega | (simp;omega))) only [go_sem,w64,tupQ,ratDV,h1,h2]) | refine and_side ?_ | fail)
            (refine endA (r:=.tup [.d (.agg [.int 0,.int 0]),.d (.bool false)]) ?_)
            exact ⟨by rw [hf,dotTo_none hn _ (by omega)];rfl,rfl⟩
          | true =>
            repeat' (first | refine awp_seq ?_ | refine stp ?_ | refine blk_o (by decide) ?_ | (apply awp_condB;(focus (simp (disch:=(first | omega | (simp;omega))) only [go_sem,w64,tupQ,ratDV,h1,h2];try exact rfl));first | with_reducible refine condOf_t ?_ | with_reducible refine condOf_f ?_) | (refine awp_region' tyT_ok ?_;intro K hK) | (refine awp_drawA ?_;intro K hK) | (with_reducible refine hK _ ?_;clear hK K) | (refine stq ?_;simp (disch:=(first | omega | (simp;omega))) only [go_sem,w64,tupQ,ratDV,h1,h2]) | refine and_side ?_ | fail)
            refine ⟨a.length - (k+1),_,by omega,?_,k+1,rq q,rfl,by omega,by rw [hs,if_pos ⟨h1,h2⟩],rfl⟩
            (refine sle_mk ?_ ?_ <;> simp (disch:=(first | omega | (simp;omega))) only [go_sem,w64,ratsD] <;> exact leafs)
      · obtain rfl:k=a.length:=by omega
        repeat' (first | refine awp_seq ?_ | refine stp ?_ | refine blk_o (by decide) ?_ | (apply awp_condB;(focus (simp (disch:=(first | omega | (simp;omega))) only [go_sem,w64];try exact rfl));first | with_reducible refine condOf_t ?_ | with_reducible refine condOf_f ?_) | (refine awp_region' tyT_ok ?_;intro K hK) | (refine awp_drawA ?_;intro K hK) | (with_reducible refine hK _ ?_;clear hK K) | (refine stq ?_;simp (disch:=(first | omega | (simp;omega))) only [go_sem,w64]) | refine and_side ?_ | fail)
        (refine endA (r:=.tup [.d (.agg [.int x.num,.int x.den]),.d (.bool true)]) ?_)
        exact ⟨by rw [hf,hx];rfl,rfl⟩
  · have z1:decide (((a.length:Nat):Int)=(b.length:Nat))=false:=decide_eq_false hl
    repeat' (first | refine awp_seq ?_ | refine stp ?_ | refine blk_o (by decide) ?_ | (apply awp_condB;(focus (simp (disch:=(first | omega | (simp;omega))) only [go_sem,w64,ratsD,z1];try exact rfl));first | with_reducible refine condOf_t ?_ | with_reducible refine condOf_f ?_) | (refine awp_region' tyT_ok ?_;intro K hK) | (refine awp_drawA ?_;intro K hK) | (with_reducible refine hK _ ?_;clear hK K) | (refine stq ?_;simp (disch:=(first | omega | (simp;omega))) only [go_sem,w64,ratsD,z1]) | refine and_side ?_ | fail)
    (refine endA (r:=.tup [.d (.agg [.int 0,.int 0]),.d (.bool false)]) ?_)
    exact ⟨by unfold dotF;rw [if_neg (by omega)];rfl,rfl⟩
set_option maxHeartbeats 1000000 in
theorem specDotA (a b:List RatD) (ha:a.length≤1048576) (hb:b.length≤1048576):AFn 50 [.d (ratsD a),.d (ratsD b)] [] (fun r os=>r=ansQ (dotF a b)∧os=[]):=by
  refine afn_of (rv:=[.cell 4 39,.tmp 5]) tyT_ok Try.func50 rfl (by decide +kernel) Try.ntmps50 rfl (by simp) ?_
  by_cases hl:((a.length:Nat):Int)=(b.length:Nat)
  · have z1:decide (((a.length:Nat):Int)=(b.length:Nat))=true:=decide_eq_true hl
    have hf:dotF a b=dotTo a b a.length:=if_pos (by omega)
    repeat' (first | refine awp_seq ?_ | refine stp ?_ | refine blk_o (by decide) ?_ | (apply awp_condB;(focus (simp (disch:=(first | omega | (simp;omega))) only [go_sem,w64,ratsD,z1];try exact rfl));first | with_reducible refine condOf_t ?_ | with_reducible refine condOf_f ?_) | (refine awp_region' tyT_ok ?_;intro K hK) | (refine awp_drawA ?_;intro K hK) | (with_reducible refine hK _ ?_;clear hK K) | (refine stq ?_;simp (disch:=(first | omega | (simp;omega))) only [go_sem,w64,ratsD,z1]) | refine and_side ?_ | fail)
    refine awp_loopw (fun mm s=>∃ k x,mm=a.length - k∧k≤a.length∧dotTo a b k=some x∧s=mkS [(0,.d (ratsD a)),(1,.d (ratsD b)),(4,.ptr 4 0),(6,.ptr 6 0),(7,.d (.int (k:Nat)))] [(4,[.d (.int 0),.d (.int 0)]),(6,[.d (.int x.num),.d (.int x.den)])]) ?_ ?_
    · refine ⟨_,_,?_,0,⟨0,1⟩,rfl,Nat.zero_le _,rfl,rfl⟩
      (refine sle_mk ?_ ?_ <;> simp (disch:=(first | omega | (simp;omega))) only [go_sem,w64,ratsD] <;> exact leafs)
    · rintro mm s ⟨k,x,rfl,hk,hx,rfl⟩
      repeat' (first | refine awp_seq ?_ | refine stp ?_ | refine blk_o (by decide) ?_ | (apply awp_condB;(focus (simp (disch:=(first | omega | (simp;omega))) only [go_sem,w64,ratsD];try exact rfl));first | with_reducible refine condOf_t ?_ | with_reducible refine condOf_f ?_) | (refine awp_region' tyT_ok ?_;intro K hK) | (refine awp_drawA ?_;intro K hK) | (with_reducible refine hK _ ?_;clear hK K) | (refine stq ?_;simp (disch:=(first | omega | (simp;omega))) only [go_sem,w64,ratsD]) | refine and_side ?_ | fail)
      refine awp_if (p:=(k:Int)<(a.length:Nat)) (by simp (disch:=(first | omega | (simp;omega))) only [go_sem,w64]) ?_ ?_ <;> intro hc
      · have hk2:k<a.length:=by omega
        have hk3:k<b.length:=by omega
        have g1:(a.map ratDV).getD k (.bool false)=ratDV (qx a k):=getDq hk2
        have g2:(b.map ratDV).getD k (.bool false)=ratDV (qx b k):=getDq hk3
        have hs:dotTo a b (k+1)=if (mulQ (qx a k) (qx b k)).2.2=true∧(addQ x (rq (mulQ (qx a k) (qx b k)))).2.2=true then some (rq (addQ x (rq (mulQ (qx a k) (qx b k))))) else none:=by simp only [dotTo,hx]
        repeat' (first | refine awp_seq ?_ | refine stp ?_ | refine blk_o (by decide) ?_ | (apply awp_condB;(focus (simp (disch:=(first | omega | (simp;omega))) only [go_sem,w64,ratsD,g1,g2,ratDV];try exact rfl));first | with_reducible refine condOf_t ?_ | with_reducible refine condOf_f ?_) | (refine awp_region' tyT_ok ?_;intro K hK) | (refine awp_drawA ?_;intro K hK) | (with_reducible refine hK _ ?_;clear hK K) | (refine stq ?_;simp (disch:=(first | omega | (simp;omega))) only [go_sem,w64,ratsD,g1,g2,ratDV]) | refine and_side ?_ | fail)
        (first | refine callA (specMulA (qx a k) (qx b k)) ?_ | refine callD (specMulA (qx a k) (qx b k)) ?_ | refine callE (specMulA (qx a k) (qx b k)) ?_ | refine callF (specMulA (qx a k) (qx b k)) ?_ ?_)
        generalize mulQ (qx a k) (qx b k)=p at hs ⊢
        cases h1:p.2.2 with
        | false =>
          have hn:dotTo a b (k+1)=none:=by rw [hs,if_neg (by rw [h1];simp)]
          repeat' (first | refine awp_seq ?_ | refine stp ?_ | refine blk_o (by decide) ?_ | (apply awp_condB;(focus (simp (disch:=(first | omega | (simp;omega))) only [go_sem,w64,tupQ,ratDV,h1];try exact rfl));first | with_reducible refine condOf_t ?_ | with_reducible refine condOf_f ?_) | (refine awp_region' tyT_ok ?_;intro K hK) | (refine awp_drawA ?_;intro K hK) | (with_reducible refine hK _ ?_;clear hK K) | (refine stq ?_;simp (disch:=(first | omega | (simp;omega))) only [go_sem,w64,tupQ,ratDV,h1]) | refine and_side ?_ | fail)
          (refine endA (r:=.tup [.d (.agg [.int 0,.int 0]),.d (.bool false)]) ?_)
          exact ⟨by rw [hf,dotTo_none hn _ (by omega)];rfl,rfl⟩
        | true =>
          repeat' (first | refine awp_seq ?_ | refine stp ?_ | refine blk_o (by decide) ?_ | (apply awp_condB;(focus (simp (disch:=(first | omega | (simp;omega))) only [go_sem,w64,ratsD,tupQ,ratDV,h1];try exact rfl));first | with_reducible refine condOf_t ?_ | with_reducible refine condOf_f ?_) | (refine awp_region' tyT_ok ?_;intro K hK) | (refine awp_drawA ?_;intro K hK) | (with_reducible refine hK _ ?_;clear hK K) | (refine stq ?_;simp (disch:=(first | omega | (simp;omega))) only [go_sem,w64,ratsD,tupQ,ratDV,h1]) | refine and_side ?_ | fail)
          (first | refine callA (specAddA x (rq p)) ?_ | refine callD (specAddA x (rq p)) ?_ | refine callE (specAddA x (rq p)) ?_ | refine callF (specAddA x (rq p)) ?_ ?_)
          generalize addQ x (rq p)=q at hs ⊢
          cases h2:q.2.2 with
          | false =>
            have hn:dotTo a b (k+1)=none:=by rw [hs,if_neg (by rw [h2];simp)]
            repeat' (first | refine awp_seq ?_ | refine stp ?_ | refine blk_o (by decide) ?_ | (apply awp_condB;(focus (simp (disch:=(first | omega | (simp;omega))) only [go_sem,w64,tupQ,ratDV,h1,h2];try exact rfl));first | with_reducible refine condOf_t ?_ | with_reducible refine condOf_f ?_) | (refine awp_region' tyT_ok ?_;intro K hK) | (refine awp_drawA ?_;intro K hK) | (with_reducible refine hK _ ?_;clear hK K) | (refine stq ?_;simp (disch:=(first | omega | (simp;omega))) only [go_sem,w64,tupQ,ratDV,h1,h2]) | refine and_side ?_ | fail)
            (refine endA (r:=.tup [.d (.agg [.int 0,.int 0]),.d (.bool false)]) ?_)
            exact ⟨by rw [hf,dotTo_none hn _ (by omega)];rfl,rfl⟩
          | true =>
            repeat' (first | refine awp_seq ?_ | refine stp ?_ | refine blk_o (by decide) ?_ | (apply awp_condB;(focus (simp (disch:=(first | omega | (simp;omega))) only [go_sem,w64,tupQ,ratDV,h1,h2];try exact rfl));first | with_reducible refine condOf_t ?_ | with_reducible refine condOf_f ?_) | (refine awp_region' tyT_ok ?_;intro K hK) | (refine awp_drawA ?_;intro K hK) | (with_reducible refine hK _ ?_;clear hK K) | (refine stq ?_;simp (disch:=(first | omega | (simp;omega))) only [go_sem,w64,tupQ,ratDV,h1,h2]) | refine and_side ?_ | fail)
            refine ⟨a.length - (k+1),_,by omega,?_,k+1,rq q,rfl,by omega,by rw [hs,if_pos ⟨h1,h2⟩],rfl⟩
            (refine sle_mk ?_ ?_ <;> simp (disch:=(first | omega | (simp;omega))) only [go_sem,w64,ratsD] <;> exact leafs)
      · obtain rfl:k=a.length:=by omega
        repeat' (first | refine awp_seq ?_ | refine stp ?_ | refine blk_o (by decide) ?_ | (apply awp_condB;(focus (simp (disch:=(first | omega | (simp;omega))) only [go_sem,w64];try exact rfl));first | with_reducible refine condOf_t ?_ | with_reducible refine condOf_f ?_) | (refine awp_region' tyT_ok ?_;intro K hK) | (refine awp_drawA ?_;intro K hK) | (with_reducible refine hK _ ?_;clear hK K) | (refine stq ?_;simp (disch:=(first | omega | (simp;omega))) only [go_sem,w64]) | refine and_side ?_ | fail)
        (refine endA (r:=.tup [.d (.agg [.int x.num,.int x.den]),.d (.bool true)]) ?_)
        exact ⟨by rw [hf,hx];rfl,rfl⟩
  · have z1:decide (((a.length:Nat):Int)=(b.length:Nat))=false:=decide_eq_false hl
    repeat' (first | refine awp_seq ?_ | refine stp ?_ | refine blk_o (by decide) ?_ | (apply awp_condB;(focus (simp (disch:=(first | omega | (simp;omega))) only [go_sem,w64,ratsD,z1];try exact rfl));first | with_reducible refine condOf_t ?_ | with_reducible refine condOf_f ?_) | (refine awp_region' tyT_ok ?_;intro K hK) | (refine awp_drawA ?_;intro K hK) | (with_reducible refine hK _ ?_;clear hK K) | (refine stq ?_;simp (disch:=(first | omega | (simp;omega))) only [go_sem,w64,ratsD,z1]) | refine and_side ?_ | fail)
    (refine endA (r:=.tup [.d (.agg [.int 0,.int 0]),.d (.bool false)]) ?_)
    exact ⟨by unfold dotF;rw [if_neg (by omega)];rfl,rfl⟩
def mvTo (M:List (List RatD)) (x:List RatD):Nat→Option (List RatD)
  | 0=>some []
  | k+1=>match mvTo M x k,dotF (mx M k) x with
    | some l,some y=>some (l ++ [y])
    | _,_=>none
theorem mvTo_none {M:List (List RatD)} {x:List RatD} {k:Nat} (h:mvTo M x k=none):∀ j,k≤j→mvTo M x j=none:=by
  intro j hj
  induction hj with
  | refl=>exact h
  | step _ ih=>simp only [mvTo,ih]
theorem mvTo_len {M:List (List RatD)} {x:List RatD}:∀ {k:Nat} {l:List RatD},mvTo M x k=some l→l.length=k
  | 0,l,h=>by simp only [mvTo,Option.some.injEq] at h;subst h;rfl
  | k+1,l,h=>by
    simp only [mvTo] at h
    split at h
    · rename_i l0 y h1 h2
      cases h
      have:=mvTo_len h1
      simp [this]
    · cases h
def mvF (M:List (List RatD)) (x:List RatD):Option (List RatD):=mvTo M x M.length
def ansL:Option (List RatD)→AV
  | some l=>.tup [.d (ratsD l),.d (.bool true)]
  | none=>.tup [.d (ratsD []),.d (.bool false)]
set_option maxHeartbeats 1000000 in
theorem implMvA (M:List (List RatD)) (x:List RatD) (hM:M.length≤1048576) (hr:∀ i,i<M.length→(mx M i).length≤1048576) (hx:x.length≤1048576):AFn 61 [.d (matD M),.d (ratsD x)] [] (fun r os=>r=ansL (mvF M x)∧os=[]):=by
  refine afn_of (rv:=[.tmp 4,.tmp 5]) tyT_ok Try.func61 rfl (by decide +kernel) Try.ntmps61 rfl (by simp) ?_
  repeat' (first | refine awp_seq ?_ | refine stp ?_ | refine blk_o (by decide) ?_ | (apply awp_condB;(focus (simp (disch:=(first | omega | (simp;omega))) only [go_sem,w64,matD];try exact rfl));first | with_reducible refine condOf_t ?_ | with_reducible refine condOf_f ?_) | (refine awp_region' tyT_ok ?_;intro K hK) | (refine awp_drawA ?_;intro K hK) | (with_reducible refine hK _ ?_;clear hK K) | (refine stq ?_;simp (disch:=(first | omega | (simp;omega))) only [go_sem,w64,matD]) | refine and_side ?_ | fail)
  refine awp_nilbuf 6 6 39 2 (by simp (disch:=(first | omega | (simp;omega))) only [go_sem,w64]) ?_
  refine awp_loopw (fun mm s=>∃ k l,mm=M.length - k∧k≤M.length∧mvTo M x k=some l∧s=mkS [(1,.d (ratsD x)),(6,.buf 6 39 2 (l.map ratDV)),(11,.d (matD M)),(12,.d (.int (M.length:Nat))),(13,.d (.int (k:Nat)))] []) ?_ ?_
  · refine ⟨_,_,?_,0,[],rfl,Nat.zero_le _,rfl,rfl⟩
    (refine sle_mk ?_ ?_ <;> simp (disch:=(first | omega | (simp;omega))) only [go_sem,w64,matD,List.map_nil] <;> exact leafs)
  · rintro mm s ⟨k,l,rfl,hk,hl,rfl⟩
    have hll:=mvTo_len hl
    repeat' (first | refine awp_seq ?_ | refine stp ?_ | refine blk_o (by decide) ?_ | (apply awp_condB;(focus (simp (disch:=(first | omega | (simp;omega))) only [go_sem,w64,matD];try exact rfl));first | with_reducible refine condOf_t ?_ | with_reducible refine condOf_f ?_) | (refine awp_region' tyT_ok ?_;intro K hK) | (refine awp_drawA ?_;intro K hK) | (with_reducible refine hK _ ?_;clear hK K) | (refine stq ?_;simp (disch:=(first | omega | (simp;omega))) only [go_sem,w64,matD]) | refine and_side ?_ | fail)
    refine awp_if (p:=(k:Int)<M.length) (by simp (disch:=(first | omega | (simp;omega))) only [go_sem,w64]) ?_ ?_ <;> intro hc
    · have hk2:k<M.length:=by omega
      have g0:(M.map ratsD).getD k (.bool false)=ratsD (mx M k):=getDm hk2
      have hs:mvTo M x (k+1)=match dotF (mx M k) x with | some y=>some (l ++ [y]) | none=>none:=by
        simp only [mvTo,hl]
        cases dotF (mx M k) x <;> rfl
      repeat' (first | refine awp_seq ?_ | refine stp ?_ | refine blk_o (by decide) ?_ | (apply awp_condB;(focus (simp (disch:=(first | omega | (simp;omega))) only [go_sem,w64,matD,g0];try exact rfl));first | with_reducible refine condOf_t ?_ | with_reducible refine condOf_f ?_) | (refine awp_region' tyT_ok ?_;intro K hK) | (refine awp_drawA ?_;intro K hK) | (with_reducible refine hK _ ?_;clear hK K) | (refine stq ?_;simp (disch:=(first | omega | (simp;omega))) only [go_sem,w64,matD,g0]) | refine and_side ?_ | fail)
      (first | refine callA (implDotA (mx M k) x (hr k hk2) hx) ?_ | refine callD (implDotA (mx M k) x (hr k hk2) hx) ?_ | refine callE (implDotA (mx M k) x (hr k hk2) hx) ?_ | refine callF (implDotA (mx M k) x (hr k hk2) hx) ?_ ?_)
      cases hd:dotF (mx M k) x with
      | none =>
        rw [hd] at hs
        repeat' (first | refine awp_seq ?_ | refine stp ?_ | refine blk_o (by decide) ?_ | (apply awp_condB;(focus (simp (disch:=(first | omega | (simp;omega))) only [go_sem,w64,ansQ,ratDV];try exact rfl));first | with_reducible refine condOf_t ?_ | with_reducible refine condOf_f ?_) | (refine awp_region' tyT_ok ?_;intro K hK) | (refine awp_drawA ?_;intro K hK) | (with_reducible refine hK _ ?_;clear hK K) | (refine stq ?_;simp (disch:=(first | omega | (simp;omega))) only [go_sem,w64,ansQ,ratDV]) | refine and_side ?_ | fail)
        (refine endA (r:=.tup [.d (.sl 2 []),.d (.bool false)]) ?_)
        exact ⟨by unfold mvF;rw [mvTo_none hs _ (by omega)];rfl,rfl⟩
      | some y =>
        rw [hd] at hs
        have hb:l.length≤16777215:=by omega
        repeat' (first | refine awp_seq ?_ | refine stp ?_ | refine blk_o (by decide) ?_ | (apply awp_condB;(focus (simp (disch:=(first | omega | (simp;omega))) only [go_sem,w64,ansQ,ratDV];try exact rfl));first | with_reducible refine condOf_t ?_ | with_reducible refine condOf_f ?_) | (refine awp_region' tyT_ok ?_;intro K hK) | (refine awp_drawA ?_;intro K hK) | (with_reducible refine hK _ ?_;clear hK K) | (refine stq ?_;simp (disch:=(first | omega | (simp;omega))) only [go_sem,w64,ansQ,ratDV]) | refine and_side ?_ | fail)
        refine ⟨M.length - (k+1),_,by omega,?_,k+1,l ++ [y],rfl,by omega,hs,rfl⟩
        (refine sle_mk ?_ ?_ <;> simp (disch:=(first | omega | (simp;omega))) only [go_sem,w64,matD,List.map_append,List.map_cons,List.map_nil,ratDV] <;> exact leafs)
    · obtain rfl:k=M.length:=by omega
      repeat' (first | refine awp_seq ?_ | refine stp ?_ | refine blk_o (by decide) ?_ | (apply awp_condB;(focus (simp (disch:=(first | omega | (simp;omega))) only [go_sem,w64];try exact rfl));first | with_reducible refine condOf_t ?_ | with_reducible refine condOf_f ?_) | (refine awp_region' tyT_ok ?_;intro K hK) | (refine awp_drawA ?_;intro K hK) | (with_reducible refine hK _ ?_;clear hK K) | (refine stq ?_;simp (disch:=(first | omega | (simp;omega))) only [go_sem,w64]) | refine and_side ?_ | fail)
      (refine endA (r:=.tup [.d (ratsD l),.d (.bool true)]) ?_)
      exact ⟨by unfold mvF;rw [hl];rfl,rfl⟩
set_option maxHeartbeats 1000000 in
theorem specMvA (M:List (List RatD)) (x:List RatD) (hM:M.length≤1048576) (hr:∀ i,i<M.length→(mx M i).length≤1048576) (hx:x.length≤1048576):AFn 57 [.d (matD M),.d (ratsD x)] [] (fun r os=>r=ansL (mvF M x)∧os=[]):=by
  refine afn_of (rv:=[.tmp 4,.tmp 5]) tyT_ok Try.func57 rfl (by decide +kernel) Try.ntmps57 rfl (by simp) ?_
  repeat' (first | refine awp_seq ?_ | refine stp ?_ | refine blk_o (by decide) ?_ | (apply awp_condB;(focus (simp (disch:=(first | omega | (simp;omega))) only [go_sem,w64,matD];try exact rfl));first | with_reducible refine condOf_t ?_ | with_reducible refine condOf_f ?_) | (refine awp_region' tyT_ok ?_;intro K hK) | (refine awp_drawA ?_;intro K hK) | (with_reducible refine hK _ ?_;clear hK K) | (refine stq ?_;simp (disch:=(first | omega | (simp;omega))) only [go_sem,w64,matD]) | refine and_side ?_ | fail)
  refine awp_loopw (fun mm s=>∃ k l,mm=M.length - k∧k≤M.length∧mvTo M x k=some l∧s=mkS [(0,.d (matD M)),(1,.d (ratsD x)),(6,.buf 10 39 2 (l.map ratDV)),(7,.d (.int (k:Nat)))] []) ?_ ?_
  · refine ⟨_,_,?_,0,[],rfl,Nat.zero_le _,rfl,rfl⟩
    (refine sle_mk ?_ ?_ <;> simp (disch:=(first | omega | (simp;omega))) only [go_sem,w64,matD,List.map_nil] <;> exact leafs)
  · rintro mm s ⟨k,l,rfl,hk,hl,rfl⟩
    have hll:=mvTo_len hl
    repeat' (first | refine awp_seq ?_ | refine stp ?_ | refine blk_o (by decide) ?_ | (apply awp_condB;(focus (simp (disch:=(first | omega | (simp;omega))) only [go_sem,w64,matD];try exact rfl));first | with_reducible refine condOf_t ?_ | with_reducible refine condOf_f ?_) | (refine awp_region' tyT_ok ?_;intro K hK) | (refine awp_drawA ?_;intro K hK) | (with_reducible refine hK _ ?_;clear hK K) | (refine stq ?_;simp (disch:=(first | omega | (simp;omega))) only [go_sem,w64,matD]) | refine and_side ?_ | fail)
    refine awp_if (p:=(k:Int)<M.length) (by simp (disch:=(first | omega | (simp;omega))) only [go_sem,w64]) ?_ ?_ <;> intro hc
    · have hk2:k<M.length:=by omega
      have g0:(M.map ratsD).getD k (.bool false)=ratsD (mx M k):=getDm hk2
      have hs:mvTo M x (k+1)=match dotF (mx M k) x with | some y=>some (l ++ [y]) | none=>none:=by
        simp only [mvTo,hl]
        cases dotF (mx M k) x <;> rfl
      repeat' (first | refine awp_seq ?_ | refine stp ?_ | refine blk_o (by decide) ?_ | (apply awp_condB;(focus (simp (disch:=(first | omega | (simp;omega))) only [go_sem,w64,matD,g0];try exact rfl));first | with_reducible refine condOf_t ?_ | with_reducible refine condOf_f ?_) | (refine awp_region' tyT_ok ?_;intro K hK) | (refine awp_drawA ?_;intro K hK) | (with_reducible refine hK _ ?_;clear hK K) | (refine stq ?_;simp (disch:=(first | omega | (simp;omega))) only [go_sem,w64,matD,g0]) | refine and_side ?_ | fail)
      (first | refine callA (specDotA (mx M k) x (hr k hk2) hx) ?_ | refine callD (specDotA (mx M k) x (hr k hk2) hx) ?_ | refine callE (specDotA (mx M k) x (hr k hk2) hx) ?_ | refine callF (specDotA (mx M k) x (hr k hk2) hx) ?_ ?_)
      cases hd:dotF (mx M k) x with
      | none =>
        rw [hd] at hs
        repeat' (first | refine awp_seq ?_ | refine stp ?_ | refine blk_o (by decide) ?_ | (apply awp_condB;(focus (simp (disch:=(first | omega | (simp;omega))) only [go_sem,w64,ansQ,ratDV];try exact rfl));first | with_reducible refine condOf_t ?_ | with_reducible refine condOf_f ?_) | (refine awp_region' tyT_ok ?_;intro K hK) | (refine awp_drawA ?_;intro K hK) | (with_reducible refine hK _ ?_;clear hK K) | (refine stq ?_;simp (disch:=(first | omega | (simp;omega))) only [go_sem,w64,ansQ,ratDV]) | refine and_side ?_ | fail)
        (refine endA (r:=.tup [.d (.sl 2 []),.d (.bool false)]) ?_)
        exact ⟨by unfold mvF;rw [mvTo_none hs _ (by omega)];rfl,rfl⟩
      | some y =>
        rw [hd] at hs
        have hb:l.length≤16777215:=by omega
        repeat' (first | refine awp_seq ?_ | refine stp ?_ | refine blk_o (by decide) ?_ | (apply awp_condB;(focus (simp (disch:=(first | omega | (simp;omega))) only [go_sem,w64,ansQ,ratDV];try exact rfl));first | with_reducible refine condOf_t ?_ | with_reducible refine condOf_f ?_) | (refine awp_region' tyT_ok ?_;intro K hK) | (refine awp_drawA ?_;intro K hK) | (with_reducible refine hK _ ?_;clear hK K) | (refine stq ?_;simp (disch:=(first | omega | (simp;omega))) only [go_sem,w64,ansQ,ratDV]) | refine and_side ?_ | fail)
        refine ⟨M.length - (k+1),_,by omega,?_,k+1,l ++ [y],rfl,by omega,hs,rfl⟩
        (refine sle_mk ?_ ?_ <;> simp (disch:=(first | omega | (simp;omega))) only [go_sem,w64,matD,List.map_append,List.map_cons,List.map_nil,ratDV] <;> exact leafs)
    · obtain rfl:k=M.length:=by omega
      repeat' (first | refine awp_seq ?_ | refine stp ?_ | refine blk_o (by decide) ?_ | (apply awp_condB;(focus (simp (disch:=(first | omega | (simp;omega))) only [go_sem,w64];try exact rfl));first | with_reducible refine condOf_t ?_ | with_reducible refine condOf_f ?_) | (refine awp_region' tyT_ok ?_;intro K hK) | (refine awp_drawA ?_;intro K hK) | (with_reducible refine hK _ ?_;clear hK K) | (refine stq ?_;simp (disch:=(first | omega | (simp;omega))) only [go_sem,w64]) | refine and_side ?_ | fail)
      (refine endA (r:=.tup [.d (ratsD l),.d (.bool true)]) ?_)
      exact ⟨by unfold mvF;rw [hl];rfl,rfl⟩
def sameQ (a b:RatD):Bool:=decide (a.num=b.num) && decide (a.den=b.den)
def eqQ (a b:List RatD):Bool:=decide (a.length=b.length) && (List.range a.length).all fun i=>sameQ (qx a i) (qx b i)
theorem eqQ_no {a b:List RatD} {i:Nat} (hi:i<a.length) (h:sameQ (qx a i) (qx b i)=false):eqQ a b=false:=by
  cases e:eqQ a b with
  | false=>rfl
  | true =>
    simp only [eqQ,Bool.and_eq_true] at e
    have:=List.all_eq_true.1 e.2 i (List.mem_range.2 hi)
    rw [h] at this;cases this
theorem eqQ_yes {a b:List RatD} (hl:a.length=b.length) (h:∀ i,i<a.length→sameQ (qx a i) (qx b i)=true):eqQ a b=true:=by
  simp only [eqQ,Bool.and_eq_true,decide_eq_true_eq]
  exact ⟨hl,List.all_eq_true.2 fun i hi=>h i (List.mem_range.1 hi)⟩
end Go.Proofs.Ytpbclpopoodklaa
