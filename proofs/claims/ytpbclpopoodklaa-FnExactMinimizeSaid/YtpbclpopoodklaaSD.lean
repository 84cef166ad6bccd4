/- Lemmas for the proof of FnExactMaximize, part 32 of 56: no condition of their own. -/
import Derived.Test.YtpbclpopoodklaaSB
namespace Go.Proofs.Ytpbclpopoodklaa
set_option linter.unusedSimpArgs false
set_option linter.unusedVariables false
attribute [local go_sem ↓] reduceIte
attribute [local go_sem] Nat.reduceEqDiff Nat.reduceLT Nat.reduceAdd Nat.reduceLeDiff Nat.reduceMul Nat.reduceBEq Nat.reduceSub reduceCtorEq Int.reduceLE Int.reduceNeg Int.reduceLT
open Go.RowKit
theorem eqT2 (x y:Int):eqTOK 39 [.int x,.int y]=true:=by kernel_rfl
set_option maxHeartbeats 1000000 in
theorem implEqA (a b:List RatD) (ha:a.length≤1048576) (hb:b.length≤1048576):AFn 49 [.d (ratsD a),.d (ratsD b)] [] (fun r os=>r=.d (.bool (eqQ a b))∧os=[]):=by
  refine afn_of (rv:=[.tmp 4]) tyT_ok Try.func49 rfl (by decide +kernel) Try.ntmps49 rfl (by simp) ?_
  by_cases hl:((a.length:Nat):Int)=(b.length:Nat)
  · have z1:decide (((a.length:Nat):Int)=(b.length:Nat))=true:=decide_eq_true hl
    repeat' (first | refine awp_seq ?_ | refine stp ?_ | refine blk_o (by decide) ?_ | (apply awp_condB;(focus (simp (disch:=(first | omega | (simp;omega))) only [go_sem,w64,ratsD,z1];try exact rfl));first | with_reducible refine condOf_t ?_ | with_reducible refine condOf_f ?_) | (refine awp_region' tyT_ok ?_;intro K hK) | (refine awp_drawA ?_;intro K hK) | (with_reducible refine hK _ ?_;clear hK K) | (refine stq ?_;simp (disch:=(first | omega | (simp;omega))) only [go_sem,w64,ratsD,z1]) | refine and_side ?_ | fail)
    refine awp_loopw (fun mm s=>∃ k,mm=a.length - k∧k≤a.length∧(∀ j,j<k→sameQ (qx a j) (qx b j)=true)∧s=mkS [(0,.d (ratsD a)),(1,.d (ratsD b)),(12,.d (.int (a.length:Nat))),(13,.d (.int (k:Nat)))] []) ?_ ?_
    · refine ⟨_,_,?_,0,rfl,Nat.zero_le _,fun j h=>absurd h (Nat.not_lt_zero _),rfl⟩
      (refine sle_mk ?_ ?_ <;> simp (disch:=(first | omega | (simp;omega))) only [go_sem,w64,ratsD] <;> exact leafs)
    · rintro mm s ⟨k,rfl,hk,hd,rfl⟩
      repeat' (first | refine awp_seq ?_ | refine stp ?_ | refine blk_o (by decide) ?_ | (apply awp_condB;(focus (simp (disch:=(first | omega | (simp;omega))) only [go_sem,w64,ratsD];try exact rfl));first | with_reducible refine condOf_t ?_ | with_reducible refine condOf_f ?_) | (refine awp_region' tyT_ok ?_;intro K hK) | (refine awp_drawA ?_;intro K hK) | (with_reducible refine hK _ ?_;clear hK K) | (refine stq ?_;simp (disch:=(first | omega | (simp;omega))) only [go_sem,w64,ratsD]) | refine and_side ?_ | fail)
      refine awp_if (p:=(k:Int)<(a.length:Nat)) (by simp (disch:=(first | omega | (simp;omega))) only [go_sem,w64]) ?_ ?_ <;> intro hc
      · have hk2:k<a.length:=by omega
        have hk3:k<b.length:=by omega
        have g1:(a.map ratDV).getD k (.bool false)=ratDV (qx a k):=getDq hk2
        have g2:(b.map ratDV).getD k (.bool false)=ratDV (qx b k):=getDq hk3
        have hs:sameQ (qx a k) (qx b k)=(decide ((qx a k).num=(qx b k).num) && decide ((qx a k).den=(qx b k).den)):=rfl
        by_cases e1:(qx a k).num=(qx b k).num
        · by_cases e2:(qx a k).den=(qx b k).den
          · have y1:decide ((qx a k).num=(qx b k).num)=true:=decide_eq_true e1
            have y2:decide ((qx a k).den=(qx b k).den)=true:=decide_eq_true e2
            repeat' (first | refine awp_seq ?_ | refine stp ?_ | refine blk_o (by decide) ?_ | (apply awp_condB;(focus (simp (disch:=(first | omega | (simp;omega))) only [go_sem,w64,ratsD,g1,g2,ratDV,y1,y2,eqT2,and_self,true_and];try exact rfl));first | with_reducible refine condOf_t ?_ | with_reducible refine condOf_f ?_) | (refine awp_region' tyT_ok ?_;intro K hK) | (refine awp_drawA ?_;intro K hK) | (with_reducible refine hK _ ?_;clear hK K) | (refine stq ?_;simp (disch:=(first | omega | (simp;omega))) only [go_sem,w64,ratsD,g1,g2,ratDV,y1,y2,eqT2,and_self,true_and]) | refine and_side ?_ | fail)
            refine ⟨a.length - (k+1),_,by omega,?_,k+1,rfl,by omega,fun j hj=>?_,rfl⟩
            · (refine sle_mk ?_ ?_ <;> simp (disch:=(first | omega | (simp;omega))) only [go_sem,w64,ratsD] <;> exact leafs)
            · by_cases e:j=k
              · subst e;rw [hs,y1,y2];rfl
              · exact hd j (by omega)
          · have y1:decide ((qx a k).num=(qx b k).num)=true:=decide_eq_true e1
            have y2:decide ((qx a k).den=(qx b k).den)=false:=decide_eq_false e2
            repeat' (first | refine awp_seq ?_ | refine stp ?_ | refine blk_o (by decide) ?_ | (apply awp_condB;(focus (simp (disch:=(first | omega | (simp;omega))) only [go_sem,w64,ratsD,g1,g2,ratDV,y1,y2,eqT2,and_self,true_and];try exact rfl));first | with_reducible refine condOf_t ?_ | with_reducible refine condOf_f ?_) | (refine awp_region' tyT_ok ?_;intro K hK) | (refine awp_drawA ?_;intro K hK) | (with_reducible refine hK _ ?_;clear hK K) | (refine stq ?_;simp (disch:=(first | omega | (simp;omega))) only [go_sem,w64,ratsD,g1,g2,ratDV,y1,y2,eqT2,and_self,true_and]) | refine and_side ?_ | fail)
            (refine endA (r:=.d (.bool false)) ?_)
            exact ⟨by rw [eqQ_no hk2 (by rw [hs,y1,y2];rfl)],rfl⟩
        · have y1:decide ((qx a k).num=(qx b k).num)=false:=decide_eq_false e1
          repeat' (first | refine awp_seq ?_ | refine stp ?_ | refine blk_o (by decide) ?_ | (apply awp_condB;(focus (simp (disch:=(first | omega | (simp;omega))) only [go_sem,w64,ratsD,g1,g2,ratDV,y1,eqT2,and_self,true_and];try exact rfl));first | with_reducible refine condOf_t ?_ | with_reducible refine condOf_f ?_) | (refine awp_region' tyT_ok ?_;intro K hK) | (refine awp_drawA ?_;intro K hK) | (with_reducible refine hK _ ?_;clear hK K) | (refine stq ?_;simp (disch:=(first | omega | (simp;omega))) only [go_sem,w64,ratsD,g1,g2,ratDV,y1,eqT2,and_self,true_and]) | refine and_side ?_ | fail)
          (refine endA (r:=.d (.bool false)) ?_)
          exact ⟨by rw [eqQ_no hk2 (by rw [hs,y1];rfl)],rfl⟩
      · obtain rfl:k=a.length:=by omega
        repeat' (first | refine awp_seq ?_ | refine stp ?_ | refine blk_o (by decide) ?_ | (apply awp_condB;(focus (simp (disch:=(first | omega | (simp;omega))) only [go_sem,w64];try exact rfl));first | with_reducible refine condOf_t ?_ | with_reducible refine condOf_f ?_) | (refine awp_region' tyT_ok ?_;intro K hK) | (refine awp_drawA ?_;intro K hK) | (with_reducible refine hK _ ?_;clear hK K) | (refine stq ?_;simp (disch:=(first | omega | (simp;omega))) only [go_sem,w64]) | refine and_side ?_ | fail)
        (refine endA (r:=.d (.bool true)) ?_)
        exact ⟨by rw [eqQ_yes (by omega) hd],rfl⟩
  · have z1:decide (((a.length:Nat):Int)=(b.length:Nat))=false:=decide_eq_false hl
    repeat' (first | refine awp_seq ?_ | refine stp ?_ | refine blk_o (by decide) ?_ | (apply awp_condB;(focus (simp (disch:=(first | omega | (simp;omega))) only [go_sem,w64,ratsD,z1];try exact rfl));first | with_reducible refine condOf_t ?_ | with_reducible refine condOf_f ?_) | (refine awp_region' tyT_ok ?_;intro K hK) | (refine awp_drawA ?_;intro K hK) | (with_reducible refine hK _ ?_;clear hK K) | (refine stq ?_;simp (disch:=(first | omega | (simp;omega))) only [go_sem,w64,ratsD,z1]) | refine and_side ?_ | fail)
    (refine endA (r:=.d (.bool false)) ?_)
    exact ⟨by unfold eqQ;rw [decide_eq_false (by omega)];rfl,rfl⟩
set_option maxHeartbeats 1000000 in
theorem specEqA (a b:List RatD) (ha:a.length≤1048576) (hb:b.length≤1048576):AFn 39 [.d (ratsD a),.d (ratsD b)] [] (fun r os=>r=.d (.bool (eqQ a b))∧os=[]):=by
  refine afn_of (rv:=[.tmp 4]) tyT_ok Try.func39 rfl (by decide +kernel) Try.ntmps39 rfl (by simp) ?_
  by_cases hl:((a.length:Nat):Int)=(b.length:Nat)
  · have z1:decide (((a.length:Nat):Int)=(b.length:Nat))=true:=decide_eq_true hl
    repeat' (first | refine awp_seq ?_ | refine stp ?_ | refine blk_o (by decide) ?_ | (apply awp_condB;(focus (simp (disch:=(first | omega | (simp;omega))) only [go_sem,w64,ratsD,z1];try exact rfl));first | with_reducible refine condOf_t ?_ | with_reducible refine condOf_f ?_) | (refine awp_region' tyT_ok ?_;intro K hK) | (refine awp_drawA ?_;intro K hK) | (with_reducible refine hK _ ?_;clear hK K) | (refine stq ?_;simp (disch:=(first | omega | (simp;omega))) only [go_sem,w64,ratsD,z1]) | refine and_side ?_ | fail)
    refine awp_loopw (fun mm s=>∃ k,mm=a.length - k∧k≤a.length∧(∀ j,j<k→sameQ (qx a j) (qx b j)=true)∧s=mkS [(0,.d (ratsD a)),(1,.d (ratsD b)),(5,.d (.int (k:Nat)))] []) ?_ ?_
    · refine ⟨_,_,?_,0,rfl,Nat.zero_le _,fun j h=>absurd h (Nat.not_lt_zero _),rfl⟩
      (refine sle_mk ?_ ?_ <;> simp (disch:=(first | omega | (simp;omega))) only [go_sem,w64,ratsD] <;> exact leafs)
    · rintro mm s ⟨k,rfl,hk,hd,rfl⟩
      repeat' (first | refine awp_seq ?_ | refine stp ?_ | refine blk_o (by decide) ?_ | (apply awp_condB;(focus (simp (disch:=(first | omega | (simp;omega))) only [go_sem,w64,ratsD];try exact rfl));first | with_reducible refine condOf_t ?_ | with_reducible refine condOf_f ?_) | (refine awp_region' tyT_ok ?_;intro K hK) | (refine awp_drawA ?_;intro K hK) | (with_reducible refine hK _ ?_;clear hK K) | (refine stq ?_;simp (disch:=(first | omega | (simp;omega))) only [go_sem,w64,ratsD]) | refine and_side ?_ | fail)
      refine awp_if (p:=(k:Int)<(a.length:Nat)) (by simp (disch:=(first | omega | (simp;omega))) only [go_sem,w64]) ?_ ?_ <;> intro hc
      · have hk2:k<a.length:=by omega
        have hk3:k<b.length:=by omega
        have g1:(a.map ratDV).getD k (.bool false)=ratDV (qx a k):=getDq hk2
        have g2:(b.map ratDV).getD k (.bool false)=ratDV (qx b k):=getDq hk3
        have hs:sameQ (qx a k) (qx b k)=(decide ((qx a k).num=(qx b k).num) && decide ((qx a k).den=(qx b k).den)):=rfl
        by_cases e1:(qx a k).num=(qx b k).num
        · by_cases e2:(qx a k).den=(qx b k).den
          · have y1:decide ((qx a k).num=(qx b k).num)=true:=decide_eq_true e1
            have y2:decide ((qx a k).den=(qx b k).den)=true:=decide_eq_true e2
            repeat' (first | refine awp_seq ?_ | refine stp ?_ | refine blk_o (by decide) ?_ | (apply awp_condB;(focus (simp (disch:=(first | omega | (simp;omega))) only [go_sem,w64,ratsD,g1,g2,ratDV,y1,y2,eqT2,and_self,true_and];try exact rfl));first | with_reducible refine condOf_t ?_ | with_reducible refine condOf_f ?_) | (refine awp_region' tyT_ok ?_;intro K hK) | (refine awp_drawA ?_;intro K hK) | (with_reducible refine hK _ ?_;clear hK K) | (refine stq ?_;simp (disch:=(first | omega | (simp;omega))) only [go_sem,w64,ratsD,g1,g2,ratDV,y1,y2,eqT2,and_self,true_and]) | refine and_side ?_ | fail)
            refine ⟨a.length - (k+1),_,by omega,?_,k+1,rfl,by omega,fun j hj=>?_,rfl⟩
            · (refine sle_mk ?_ ?_ <;> simp (disch:=(first | omega | (simp;omega))) only [go_sem,w64,ratsD] <;> exact leafs)
            · by_cases e:j=k
              · subst e;rw [hs,y1,y2];rfl
              · exact hd j (by omega)
          · have y1:decide ((qx a k).num=(qx b k).num)=true:=decide_eq_true e1
            have y2:decide ((qx a k).den=(qx b k).den)=false:=decide_eq_false e2
            repeat' (first | refine awp_seq ?_ | refine stp ?_ | refine blk_o (by decide) ?_ | (apply awp_condB;(focus (simp (disch:=(first | omega | (simp;omega))) only [go_sem,w64,ratsD,g1,g2,ratDV,y1,y2,eqT2,and_self,true_and];try exact rfl));first | with_reducible refine condOf_t ?_ | with_reducible refine condOf_f ?_) | (refine awp_region' tyT_ok ?_;intro K hK) | (refine awp_drawA ?_;intro K hK) | (with_reducible refine hK _ ?_;clear hK K) | (refine stq ?_;simp (disch:=(first | omega | (simp;omega))) only [go_sem,w64,ratsD,g1,g2,ratDV,y1,y2,eqT2,and_self,true_and]) | refine and_side ?_ | fail)
            (refine endA (r:=.d (.bool false)) ?_)
            exact ⟨by rw [eqQ_no hk2 (by rw [hs,y1,y2];rfl)],rfl⟩
        · have y1:decide ((qx a k).num=(qx b k).num)=false:=decide_eq_false e1
          repeat' (first | refine awp_seq ?_ | refine stp ?_ | refine blk_o (by decide) ?_ | (apply awp_condB;(focus (simp (disch:=(first | omega | (simp;omega))) only [go_sem,w64,ratsD,g1,g2,ratDV,y1,eqT2,and_self,true_and];try exact rfl));first | with_reducible refine condOf_t ?_ | with_reducible refine condOf_f ?_) | (refine awp_region' tyT_ok ?_;intro K hK) | (refine awp_drawA ?_;intro K hK) | (with_reducible refine hK _ ?_;clear hK K) | (refine stq ?_;simp (disch:=(first | omega | (simp;omega))) only [go_sem,w64,ratsD,g1,g2,ratDV,y1,eqT2,and_self,true_and]) | refine and_side ?_ | fail)
          (refine endA (r:=.d (.bool false)) ?_)
          exact ⟨by rw [eqQ_no hk2 (by rw [hs,y1];rfl)],rfl⟩
      · obtain rfl:k=a.length:=by omega
        repeat' (first | refine awp_seq ?_ | refine stp ?_ | refine blk_o (by decide) ?_ | (apply awp_condB;(focus (simp (disch:=(first | omega | (simp;omega))) only [go_sem,w64];try exact rfl));first | with_reducible refine condOf_t ?_ | with_reducible refine condOf_f ?_) | (refine awp_region' tyT_ok ?_;intro K hK) | (refine awp_drawA ?_;intro K hK) | (with_reducible refine hK _ ?_;clear hK K) | (refine stq ?_;simp (disch:=(first | omega | (simp;omega))) only [go_sem,w64]) | refine and_side ?_ | fail)
        (refine endA (r:=.d (.bool true)) ?_)
        exact ⟨by rw [eqQ_yes (by omega) hd],rfl⟩
  · have z1:decide (((a.length:Nat):Int)=(b.length:Nat))=false:=decide_eq_false hl
    repeat' (first | refine awp_seq ?_ | refine stp ?_ | refine blk_o (by decide) ?_ | (apply awp_condB;(focus (simp (disch:=(first | omega | (simp;omega))) only [go_sem,w64,ratsD,z1];try exact rfl));first | with_reducible refine condOf_t ?_ | with_reducible refine condOf_f ?_) | (refine awp_region' tyT_ok ?_;intro K hK) | (refine awp_drawA ?_;intro K hK) | (with_reducible refine hK _ ?_;clear hK K) | (refine stq ?_;simp (disch:=(first | omega | (simp;omega))) only [go_sem,w64,ratsD,z1]) | refine and_side ?_ | fail)
    (refine endA (r:=.d (.bool false)) ?_)
    exact ⟨by unfold eqQ;rw [decide_eq_false (by omega)];rfl,rfl⟩
def lpD (A:List (List RatD)) (B C:List RatD):DV:=.agg [matD A,ratsD B,ratsD C]
def n15 (n:Nat):Bool:=decide ((1:Int)≤n∧(n:Int)≤5)
def lpV (A:List (List RatD)) (B C:List RatD):Bool:=n15 C.length && (n15 B.length && (matOK A B.length C.length && (vL B && vL C)))
theorem n15_out {n:Nat} (h:n15 n=true):1≤n∧n≤5:=by
  have:=of_decide_eq_true h;omega
theorem lpV_out {A:List (List RatD)} {B C:List RatD} (h:lpV A B C=true):(1≤C.length∧C.length≤5)∧(1≤B.length∧B.length≤5)∧matOK A B.length C.length=true∧vL B=true∧vL C=true:=by
  simp only [lpV,Bool.and_eq_true] at h
  exact ⟨n15_out h.1,n15_out h.2.1,h.2.2.1,h.2.2.2⟩
section
variable (A:List (List RatD)) (B C:List RatD) (hA:A.length≤1048576) (hr:∀ i,i<A.length→(mx A i).length≤1048576) (hB:B.length≤1048576) (hC:C.length≤1048576)
include hA hr hB hC
set_option maxHeartbeats 2000000 in
theorem implLpA:AFn 29 [.d (lpD A B C)] [] (fun r os=>r=.d (.bool (lpV A B C))∧os=[]):=by
  refine afn_of (rv:=[.tmp 2]) tyT_ok Try.func29 rfl (by decide +kernel) Try.ntmps29 rfl (by simp) ?_
  repeat' (first | refine awp_seq ?_ | refine stp ?_ | refine blk_o (by decide) ?_ | (apply awp_condB;(focus (simp (disch:=(first | omega | (simp;omega))) only [go_sem,w64,lpD];try exact rfl));first | with_reducible refine condOf_t ?_ | with_reducible refine condOf_f ?_) | (refine awp_region' tyT_ok ?_;intro K hK) | (refine awp_drawA ?_;intro K hK) | (with_reducible refine hK _ ?_;clear hK K) | (refine stq ?_;simp (disch:=(first | omega | (simp;omega))) only [go_sem,w64,lpD]) | refine and_side ?_ | fail)
  (first | refine callA (withinR (C.length:Nat) 1 5) ?_ | refine callD (withinR (C.length:Nat) 1 5) ?_ | refine callE (withinR (C.length:Nat) 1 5) ?_ | refine callF (withinR (C.length:Nat) 1 5) ?_ ?_)
  cases h1:n15 C.length with
  | false =>
    have y1:decide ((1:Int)≤(C.length:Nat)∧((C.length:Nat):Int)≤5)=false:=h1
    repeat' (first | refine awp_seq ?_ | refine stp ?_ | refine blk_o (by decide) ?_ | (apply awp_condB;(focus (simp (disch:=(first | omega | (simp;omega))) only [go_sem,w64,lpD,y1];try exact rfl));first | with_reducible refine condOf_t ?_ | with_reducible refine condOf_f ?_) | (refine awp_region' tyT_ok ?_;intro K hK) | (refine awp_drawA ?_;intro K hK) | (with_reducible refine hK _ ?_;clear hK K) | (refine stq ?_;simp (disch:=(first | omega | (simp;omega))) only [go_sem,w64,lpD,y1]) | refine and_side ?_ | fail)
    (refine endA (r:=.d (.bool false)) ?_)
    exact ⟨by unfold lpV;rw [h1];rfl,rfl⟩
  | true =>
    have y1:decide ((1:Int)≤(C.length:Nat)∧((C.length:Nat):Int)≤5)=true:=h1
    repeat' (first | refine awp_seq ?_ | refine stp ?_ | refine blk_o (by decide) ?_ | (apply awp_condB;(focus (simp (disch:=(first | omega | (simp;omega))) only [go_sem,w64,lpD,y1];try exact rfl));first | with_reducible refine condOf_t ?_ | with_reducible refine condOf_f ?_) | (refine awp_region' tyT_ok ?_;intro K hK) | (refine awp_drawA ?_;intro K hK) | (with_reducible refine hK _ ?_;clear hK K) | (refine stq ?_;simp (disch:=(first | omega | (simp;omega))) only [go_sem,w64,lpD,y1]) | refine and_side ?_ | fail)
    (first | refine callA (withinR (B.length:Nat) 1 5) ?_ | refine callD (withinR (B.length:Nat) 1 5) ?_ | refine callE (withinR (B.length:Nat) 1 5) ?_ | refine callF (withinR (B.length:Nat) 1 5) ?_ ?_)
    cases h2:n15 B.length with
    | false =>
      have y2:decide ((1:Int)≤(B.length:Nat)∧((B.length:Nat):Int)≤5)=false:=h2
      repeat' (first | refine awp_seq ?_ | refine stp ?_ | refine blk_o (by decide) ?_ | (apply awp_condB;(focus (simp (disch:=(first | omega | (simp;omega))) only [go_sem,w64,lpD,y2];try exact rfl));first | with_reducible refine condOf_t ?_ | with_reducible refine condOf_f ?_) | (refine awp_region' tyT_ok ?_;intro K hK) | (refine awp_drawA ?_;intro K hK) | (with_reducible refine hK _ ?_;clear hK K) | (refine stq ?_;simp (disch:=(first | omega | (simp;omega))) only [go_sem,w64,lpD,y2]) | refine and_side ?_ | fail)
      (refine endA (r:=.d (.bool false)) ?_)
      exact ⟨by unfold lpV;rw [h1,h2];rfl,rfl⟩
    | true =>
      have y2:decide ((1:Int)≤(B.length:Nat)∧((B.length:Nat):Int)≤5)=true:=h2
      by_cases h3:((A.length:Nat):Int)=(B.length:Nat)
      · have y3:decide (((A.length:Nat):Int)=(B.length:Nat))=true:=decide_eq_true h3
        repeat' (first | refine awp_seq ?_ | refine stp ?_ | refine blk_o (by decide) ?_ | (apply awp_condB;(focus (simp (disch:=(first | omega | (simp;omega))) only [go_sem,w64,lpD,y2,y3];try exact rfl));first | with_reducible refine condOf_t ?_ | with_reducible refine condOf_f ?_) | (refine awp_region' tyT_ok ?_;intro K hK) | (refine awp_drawA ?_;intro K hK) | (with_reducible refine hK _ ?_;clear hK K) | (refine stq ?_;simp (disch:=(first | omega | (simp;omega))) only [go_sem,w64,lpD,y2,y3]) | refine and_side ?_ | fail)
        (first | refine callA (allValidA B hB) ?_ | refine callD (allValidA B hB) ?_ | refine callE (allValidA B hB) ?_ | refine callF (allValidA B hB) ?_ ?_)
        cases h4:vL B with
        | false =>
          repeat' (first | refine awp_seq ?_ | refine stp ?_ | refine blk_o (by decide) ?_ | (apply awp_condB;(focus (simp (disch:=(first | omega | (simp;omega))) only [go_sem,w64,lpD];try exact rfl));first | with_reducible refine condOf_t ?_ | with_reducible refine condOf_f ?_) | (refine awp_region' tyT_ok ?_;intro K hK) | (refine awp_drawA ?_;intro K hK) | (with_reducible refine hK _ ?_;clear hK K) | (refine stq ?_;simp (disch:=(first | omega | (simp;omega))) only [go_sem,w64,lpD]) | refine and_side ?_ | fail)
          (refine endA (r:=.d (.bool false)) ?_)
          exact ⟨by unfold lpV;rw [h1,h2,h4];simp,rfl⟩
        | true =>
          repeat' (first | refine awp_seq ?_ | refine stp ?_ | refine blk_o (by decide) ?_ | (apply awp_condB;(focus (simp (disch:=(first | omega | (simp;omega))) only [go_sem,w64,lpD];try exact rfl));first | with_reducible refine condOf_t ?_ | with_reducible refine condOf_f ?_) | (refine awp_region' tyT_ok ?_;intro K hK) | (refine awp_drawA ?_;intro K hK) | (with_reducible refine hK _ ?_;clear hK K) | (refine stq ?_;simp (disch:=(first | omega | (simp;omega))) only [go_sem,w64,lpD]) | refine and_side ?_ | fail)
          (first | refine callA (allValidA C hC) ?_ | refine callD (allValidA C hC) ?_ | refine callE (allValidA C hC) ?_ | refine callF (allValidA C hC) ?_ ?_)
          cases h5:vL C with
          | false =>
            repeat' (first | refine awp_seq ?_ | refine stp ?_ | refine blk_o (by decide) ?_ | (apply awp_condB;(focus (simp (disch:=(first | omega | (simp;omega))) only [go_sem,w64,lpD];try exact rfl));first | with_reducible refine condOf_t ?_ | with_reducible refine condOf_f ?_) | (refine awp_region' tyT_ok ?_;intro K hK) | (refine awp_drawA ?_;intro K hK) | (with_reducible refine hK _ ?_;clear hK K) | (refine stq ?_;simp (disch:=(first | omega | (simp;omega))) only [go_sem,w64,lpD]) | refine and_side ?_ | fail)
            (refine endA (r:=.d (.bool false)) ?_)
            exact ⟨by unfold lpV;rw [h1,h2,h4,h5];simp,rfl⟩
          | true =>
            repeat' (first | refine awp_seq ?_ | refine stp ?_ | refine blk_o (by decide) ?_ | (apply awp_condB;(focus (simp (disch:=(first | omega | (simp;omega))) only [go_sem,w64,lpD];try exact rfl));first | with_reducible refine condOf_t ?_ | with_reducible refine condOf_f ?_) | (refine awp_region' tyT_ok ?_;intro K hK) | (refine awp_drawA ?_;intro K hK) | (with_reducible refine hK _ ?_;clear hK K) | (refine stq ?_;simp (disch:=(first | omega | (simp;omega))) only [go_sem,w64,lpD]) | refine and_side ?_ | fail)
            refine awp_loopw (fun mm s=>∃ i,mm=A.length - i∧i≤A.length∧(∀ j,j<i→rowV C.length (mx A j)=true)∧s=mkS [(3,.d (.int (C.length:Nat))),(41,.d (matD A)),(42,.d (.int (A.length:Nat))),(43,.d (.int (i:Nat)))] []) ?_ ?_
            · refine ⟨_,_,?_,0,rfl,Nat.zero_le _,fun j h=>absurd h (Nat.not_lt_zero _),rfl⟩
              (refine sle_mk ?_ ?_ <;> simp (disch:=(first | omega | (simp;omega))) only [go_sem,w64,matD] <;> exact leafs)
            · rintro mm s ⟨i,rfl,hi,hd,rfl⟩
              repeat' (first | refine awp_seq ?_ | refine stp ?_ | refine blk_o (by decide) ?_ | (apply awp_condB;(focus (simp (disch:=(first | omega | (simp;omega))) only [go_sem,w64,matD];try exact rfl));first | with_reducible refine condOf_t ?_ | with_reducible refine condOf_f ?_) | (refine awp_region' tyT_ok ?_;intro K hK) | (refine awp_drawA ?_;intro K hK) | (with_reducible refine hK _ ?_;clear hK K) | (refine stq ?_;simp (disch:=(first | omega | (simp;omega))) only [go_sem,w64,matD]) | refine and_side ?_ | fail)
              refine awp_if (p:=(i:Int)<(A.length:Nat)) (by simp (disch:=(first | omega | (simp;omega))) only [go_sem,w64]) ?_ ?_ <;> intro hc
              · have hi2:i<A.length:=by omega
                have g0:(A.map ratsD).getD i (.bool false)=ratsD (mx A i):=getDm hi2
                by_cases h6:(((mx A i).length:Nat):Int)=(C.length:Nat)
                · have y6:decide ((((mx A i).length:Nat):Int)=(C.length:Nat))=true:=decide_eq_true h6
                  repeat' (first | refine awp_seq ?_ | refine stp ?_ | refine blk_o (by decide) ?_ | (apply awp_condB;(focus (simp (disch:=(first | omega | (simp;omega))) only [go_sem,w64,matD,g0,y6];try exact rfl));first | with_reducible refine condOf_t ?_ | with_reducible refine condOf_f ?_) | (refine awp_region' tyT_ok ?_;intro K hK) | (refine awp_drawA ?_;intro K hK) | (with_reducible refine hK _ ?_;clear hK K) | (refine stq ?_;simp (disch:=(first | omega | (simp;omega))) only [go_sem,w64,matD,g0,y6]) | refine and_side ?_ | fail)
                  (first | refine callA (allValidA (mx A i) (hr i hi2)) ?_ | refine callD (allValidA (mx A i) (hr i hi2)) ?_ | refine callE (allValidA (mx A i) (hr i hi2)) ?_ | refine callF (allValidA (mx A i) (hr i hi2)) ?_ ?_)
                  cases h7:vL (mx A i) with
                  | false =>
                    repeat' (first | refine awp_seq ?_ | refine stp ?_ | refine blk_o (by decide) ?_ | (apply awp_condB;(focus (simp (disch:=(first | omega | (simp;omega))) only [go_sem,w64];try exact rfl));first | with_reducible refine condOf_t ?_ | with_reducible refine condOf_f ?_) | (refine awp_region' tyT_ok ?_;intro K hK) | (refine awp_drawA ?_;intro K hK) | (with_reducible refine hK _ ?_;clear hK K) | (refine stq ?_;simp (disch:=(first | omega | (simp;omega))) only [go_sem,w64]) | refine and_side ?_ | fail)
                    (refine endA (r:=.d (.bool false)) ?_)
                    exact ⟨by unfold lpV matOK;rw [matOK_no hi2 (by unfold rowV;rw [h7,Bool.and_false])];simp,rfl⟩
                  | true =>
                    repeat' (first | refine awp_seq ?_ | refine stp ?_ | refine blk_o (by decide) ?_ | (apply awp_condB;(focus (simp (disch:=(first | omega | (simp;omega))) only [go_sem,w64];try exact rfl));first | with_reducible refine condOf_t ?_ | with_reducible refine condOf_f ?_) | (refine awp_region' tyT_ok ?_;intro K hK) | (refine awp_drawA ?_;intro K hK) | (with_reducible refine hK _ ?_;clear hK K) | (refine stq ?_;simp (disch:=(first | omega | (simp;omega))) only [go_sem,w64]) | refine and_side ?_ | fail)
                    refine ⟨A.length - (i+1),_,by omega,?_,i+1,rfl,by omega,fun j hj=>?_,rfl⟩
                    · (refine sle_mk ?_ ?_ <;> simp (disch:=(first | omega | (simp;omega))) only [go_sem,w64,matD] <;> exact leafs)
                    · by_cases e:j=i
                      · subst e
                        unfold rowV
                        rw [decide_eq_true (by omega),h7];rfl
                      · exact hd j (by omega)
                · have y6:decide ((((mx A i).length:Nat):Int)=(C.length:Nat))=false:=decide_eq_false h6
                  repeat' (first | refine awp_seq ?_ | refine stp ?_ | refine blk_o (by decide) ?_ | (apply awp_condB;(focus (simp (disch:=(first | omega | (simp;omega))) only [go_sem,w64,matD,g0,y6];try exact rfl));first | with_reducible refine condOf_t ?_ | with_reducible refine condOf_f ?_) | (refine awp_region' tyT_ok ?_;intro K hK) | (refine awp_drawA ?_;intro K hK) | (with_reducible refine hK _ ?_;clear hK K) | (refine stq ?_;simp (disch:=(first | omega | (simp;omega))) only [go_sem,w64,matD,g0,y6]) | refine and_side ?_ | fail)
                  (refine endA (r:=.d (.bool false)) ?_)
                  exact ⟨by unfold lpV matOK;rw [matOK_no hi2 (by unfold rowV;rw [decide_eq_false (by omega)];rfl)];simp,rfl⟩
              · obtain rfl:i=A.length:=by omega
                repeat' (first | refine awp_seq ?_ | refine stp ?_ | refine blk_o (by decide) ?_ | (apply awp_condB;(focus (simp (disch:=(first | omega | (simp;omega))) only [go_sem,w64];try exact rfl));first | with_reducible refine condOf_t ?_ | with_reducible refine condOf_f ?_) | (refine awp_region' tyT_ok ?_;intro K hK) | (refine awp_drawA ?_;intro K hK) | (with_reducible refine hK _ ?_;clear hK K) | (refine stq ?_;simp (disch:=(first | omega | (simp;omega))) only [go_sem,w64]) | refine and_side ?_ | fail)
                (refine endA (r:=.d (.bool true)) ?_)
                exact ⟨by unfold lpV matOK;rw [h1,h2,h4,h5,matOK_rows hd,decide_eq_true (by omega)];rfl,rfl⟩
      · have y3:decide (((A.length:Nat):Int)=(B.length:Nat))=false:=decide_eq_false h3
        repeat' (first | refine awp_seq ?_ | refine stp ?_ | refine blk_o (by decide) ?_ | (apply awp_condB;(focus (simp (disch:=(first | omega | (simp;omega))) only [go_sem,w64,lpD,y2,y3];try exact rfl));first | with_reducible refine condOf_t ?_ | with_reducible refine condOf_f ?_) | (refine awp_region' tyT_ok ?_;intro K hK) | (refine awp_drawA ?_;intro K hK) | (with_reducible refine hK _ ?_;clear hK K) | (refine stq ?_;simp (disch:=(first | omega | (simp;omega))) only [go_sem,w64,lpD,y2,y3]) | refine and_side ?_ | fail)
        (refine endA (r:=.d (.bool false)) ?_)
        exact ⟨by unfold lpV matOK;rw [h1,h2,decide_eq_false (by omega)];rfl,rfl⟩
omit hA hr hB hC in
theorem mat1 (l:List RatD):matOK [l] 1 l.length=vL l:=by
  unfold matOK rowV
  simp
omit hr in
set_option maxHeartbeats 2000000 in
theorem specLpA:AFn 25 [.d (lpD A B C)] [] (fun r os=>r=.d (.bool (lpV A B C))∧os=[]):=by
  have s1:=squareA A B.length C.length hA hC hB
  have s2:=squareA [C] 1 C.length (by simp) hC (by omega)
  have s3:=squareA [B] 1 B.length (by simp) hB (by omega)
  rw [mat1] at s2 s3
  refine afn_of (rv:=[.tmp 2]) tyT_ok Try.func25 rfl (by decide +kernel) Try.ntmps25 rfl (by simp) ?_
  repeat' (first | refine awp_seq ?_ | refine stp ?_ | refine blk_o (by decide) ?_ | (apply awp_condB;(focus (simp (disch:=(first | omega | (simp;omega))) only [go_sem,w64,lpD];try exact rfl));first | with_reducible refine condOf_t ?_ | with_reducible refine condOf_f ?_) | (refine awp_region' tyT_ok ?_;intro K hK) | (refine awp_drawA ?_;intro K hK) | (with_reducible refine hK _ ?_;clear hK K) | (refine stq ?_;simp (disch:=(first | omega | (simp;omega))) only [go_sem,w64,lpD]) | refine and_side ?_ | fail)
  (first | refine callA (inR (C.length:Nat) 1 5) ?_ | refine callD (inR (C.length:Nat) 1 5) ?_ | refine callE (inR (C.length:Nat) 1 5) ?_ | refine callF (inR (C.length:Nat) 1 5) ?_ ?_)
  cases h1:n15 C.length with
  | false =>
    have y1:decide ((1:Int)≤(C.length:Nat)∧((C.length:Nat):Int)≤5)=false:=h1
    repeat' (first | refine awp_seq ?_ | refine stp ?_ | refine blk_o (by decide) ?_ | (apply awp_condB;(focus (simp (disch:=(first | omega | (simp;omega))) only [go_sem,w64,lpD,y1];try exact rfl));first | with_reducible refine condOf_t ?_ | with_reducible refine condOf_f ?_) | (refine awp_region' tyT_ok ?_;intro K hK) | (refine awp_drawA ?_;intro K hK) | (with_reducible refine hK _ ?_;clear hK K) | (refine stq ?_;simp (disch:=(first | omega | (simp;omega))) only [go_sem,w64,lpD,y1]) | refine and_side ?_ | fail)
    (refine endA (r:=.d (.bool false)) ?_)
    exact ⟨by unfold lpV;rw [h1];rfl,rfl⟩
  | true =>
    have y1:decide ((1:Int)≤(C.length:Nat)∧((C.length:Nat):Int)≤5)=true:=h1
    repeat' (first | refine awp_seq ?_ | refine stp ?_ | refine blk_o (by decide) ?_ | (apply awp_condB;(focus (simp (disch:=(first | omega | (simp;omega))) only [go_sem,w64,lpD,y1];try exact rfl));first | with_reducible refine condOf_t ?_ | with_reducible refine condOf_f ?_) | (refine awp_region' tyT_ok ?_;intro K hK) | (refine awp_drawA ?_;intro K hK) | (with_reducible refine hK _ ?_;clear hK K) | (refine stq ?_;simp (disch:=(first | omega | (simp;omega))) only [go_sem,w64,lpD,y1]) | refine and_side ?_ | fail)
    (first | refine callA (inR (B.length:Nat) 1 5) ?_ | refine callD (inR (B.length:Nat) 1 5) ?_ | refine callE (inR (B.length:Nat) 1 5) ?_ | refine callF (inR (B.length:Nat) 1 5) ?_ ?_)
    cases h2:n15 B.length with
    | false =>
      have y2:decide ((1:Int)≤(B.length:Nat)∧((B.length:Nat):Int)≤5)=false:=h2
      repeat' (first | refine awp_seq ?_ | refine stp ?_ | refine blk_o (by decide) ?_ | (apply awp_condB;(focus (simp (disch:=(first | omega | (simp;omega))) only [go_sem,w64,lpD,y2];try exact rfl));first | with_reducible refine condOf_t ?_ | with_reducible refine condOf_f ?_) | (refine awp_region' tyT_ok ?_;intro K hK) | (refine awp_drawA ?_;intro K hK) | (with_reducible refine hK _ ?_;clear hK K) | (refine stq ?_;simp (disch:=(first | omega | (simp;omega))) only [go_sem,w64,lpD,y2]) | refine and_side ?_ | fail)
      (refine endA (r:=.d (.bool false)) ?_)
      exact ⟨by unfold lpV;rw [h1,h2];rfl,rfl⟩
    | true =>
      have y2:decide ((1:Int)≤(B.length:Nat)∧((B.length:Nat):Int)≤5)=true:=h2
      repeat' (first | refine awp_seq ?_ | refine stp ?_ | refine blk_o (by decide) ?_ | (apply awp_condB;(focus (simp (disch:=(first | omega | (simp;omega))) only [go_sem,w64,lpD,y2];try exact rfl));first | with_reducible refine condOf_t ?_ | with_reducible refine condOf_f ?_) | (refine awp_region' tyT_ok ?_;intro K hK) | (refine awp_drawA ?_;intro K hK) | (with_reducible refine hK _ ?_;clear hK K) | (refine stq ?_;simp (disch:=(first | omega | (simp;omega))) only [go_sem,w64,lpD,y2]) | refine and_side ?_ | fail)
      (first | refine callA (s1) ?_ | refine callD (s1) ?_ | refine callE (s1) ?_ | refine callF (s1) ?_ ?_)
      cases h3:matOK A B.length C.length with
      | false =>
        repeat' (first | refine awp_seq ?_ | refine stp ?_ | refine blk_o (by decide) ?_ | (apply awp_condB;(focus (simp (disch:=(first | omega | (simp;omega))) only [go_sem,w64,lpD];try exact rfl));first | with_reducible refine condOf_t ?_ | with_reducible refine condOf_f ?_) | (refine awp_region' tyT_ok ?_;intro K hK) | (refine awp_drawA ?_;intro K hK) | (with_reducible refine hK _ ?_;clear hK K) | (refine stq ?_;simp (disch:=(first | omega | (simp;omega))) only [go_sem,w64,lpD]) | refine and_side ?_ | fail)
        (refine endA (r:=.d (.bool false)) ?_)
        exact ⟨by unfold lpV;rw [h1,h2,h3];rfl,rfl⟩
      | true =>
        repeat' (first | refine awp_seq ?_ | refine stp ?_ | refine blk_o (by decide) ?_ | (apply awp_condB;(focus (simp (disch:=(first | omega | (simp;omega))) only [go_sem,w64,lpD];try exact rfl));first | with_reducible refine condOf_t ?_ | with_reducible refine condOf_f ?_) | (refine awp_region' tyT_ok ?_;intro K hK) | (refine awp_drawA ?_;intro K hK) | (with_reducible refine hK _ ?_;clear hK K) | (refine stq ?_;simp (disch:=(first | omega | (simp;omega))) only [go_sem,w64,lpD]) | refine and_side ?_ | fail)
        (first | refine callA (s2) ?_ | refine callD (s2) ?_ | refine callE (s2) ?_ | refine callF (s2) ?_ ?_)
        cases h5:vL C with
        | false =>
          repeat' (first | refine awp_seq ?_ | refine stp ?_ | refine blk_o (by decide) ?_ | (apply awp_condB;(focus (simp (disch:=(first | omega | (simp;omega))) only [go_sem,w64,lpD];try exact rfl));first | with_reducible refine condOf_t ?_ | with_reducible refine condOf_f ?_) | (refine awp_region' tyT_ok ?_;intro K hK) | (refine awp_drawA ?_;intro K hK) | (with_reducible refine hK _ ?_;clear hK K) | (refine stq ?_;simp (disch:=(first | omega | (simp;omega))) only [go_sem,w64,lpD]) | refine and_side ?_ | fail)
          (refine endA (r:=.d (.bool false)) ?_)
          exact ⟨by unfold lpV;rw [h1,h2,h3,h5];simp,rfl⟩
        | true =>
          repeat' (first | refine awp_seq ?_ | refine stp ?_ | refine blk_o (by decide) ?_ | (apply awp_condB;(focus (simp (disch:=(first | omega | (simp;omega))) only [go_sem,w64,lpD];try exact rfl));first | with_reducible refine condOf_t ?_ | with_reducible refine condOf_f ?_) | (refine awp_region' tyT_ok ?_;intro K hK) | (refine awp_drawA ?_;intro K hK) | (with_reducible refine hK _ ?_;clear hK K) | (refine stq ?_;simp (disch:=(first | omega | (simp;omega))) only [go_sem,w64,lpD]) | refine and_side ?_ | fail)
          (first | refine callA (s3) ?_ | refine callD (s3) ?_ | refine callE (s3) ?_ | refine callF (s3) ?_ ?_)
          repeat' (first | refine awp_seq ?_ | refine stp ?_ | refine blk_o (by decide) ?_ | (apply awp_condB;(focus (simp (disch:=(first | omega | (simp;omega))) only [go_sem,w64,lpD];try exact rfl));first | with_reducible refine condOf_t ?_ | with_reducible refine condOf_f ?_) | (refine awp_region' tyT_ok ?_;intro K hK) | (refine awp_drawA ?_;intro K hK) | (with_reducible refine hK _ ?_;clear hK K) | (refine stq ?_;simp (disch:=(first | omega | (simp;omega))) only [go_sem,w64,lpD]) | refine and_side ?_ | fail)
          (refine endA (r:=.d (.bool (vL B))) ?_)
          exact ⟨by unfold lpV;rw [h1,h2,h3,h5];simp,rfl⟩
end
end Go.Proofs.Ytpbclpopoodklaa
