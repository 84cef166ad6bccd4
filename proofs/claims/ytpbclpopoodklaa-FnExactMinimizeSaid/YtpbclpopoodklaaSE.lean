/- Lemmas for the proof of FnExactMaximize, part 33 of 56: no condition of their own. -/
import Derived.Test.YtpbclpopoodklaaSD
namespace Go.Proofs.Ytpbclpopoodklaa
set_option linter.unusedSimpArgs false
set_option linter.unusedVariables false
attribute [local go_sem ↓] reduceIte
attribute [local go_sem] Nat.reduceEqDiff Nat.reduceLT Nat.reduceAdd Nat.reduceLeDiff Nat.reduceMul Nat.reduceBEq Nat.reduceSub reduceCtorEq Int.reduceLE Int.reduceNeg Int.reduceLT
open Go.RowKit
def posL (x:List RatD):Bool:=(List.range x.length).all fun i=>decide (0≤(qx x i).num)
theorem posL_no {x:List RatD} {i:Nat} (hi:i<x.length) (h:¬ 0≤(qx x i).num):posL x=false:=by
  cases e:posL x with
  | false=>rfl
  | true =>
    have:=List.all_eq_true.1 e i (List.mem_range.2 hi)
    exact absurd (of_decide_eq_true this) h
theorem posL_yes {x:List RatD} (h:∀ i,i<x.length→0≤(qx x i).num):posL x=true :=
  List.all_eq_true.2 fun i hi=>decide_eq_true (h i (List.mem_range.1 hi))
def sideL (l B:List RatD) (sg:Int):Bool:=(List.range l.length).all fun i=>decide (0≤sg*cmpQ (qx l i) (qx B i))
theorem sideL_no {l B:List RatD} {sg:Int} {i:Nat} (hi:i<l.length) (h:sg*cmpQ (qx l i) (qx B i)<0):sideL l B sg=false:=by
  cases e:sideL l B sg with
  | false=>rfl
  | true =>
    have:=List.all_eq_true.1 e i (List.mem_range.2 hi)
    have:=of_decide_eq_true this
    omega
theorem sideL_yes {l B:List RatD} {sg:Int} (h:∀ i,i<l.length→¬ sg*cmpQ (qx l i) (qx B i)<0):sideL l B sg=true :=
  List.all_eq_true.2 fun i hi=>decide_eq_true (by have:=h i (List.mem_range.1 hi);omega)
def feasF (A:List (List RatD)) (B C x:List RatD) (sg:Int):Bool:=lpV A B C && (decide (x.length=C.length) && (vL x && (posL x && match mvF A x with
  | some l=>sideL l B sg
  | none=>false)))
theorem cmpQ_rg (x y:RatD):cmpQ x y = -1∨cmpQ x y=0∨cmpQ x y=1:=by
  unfold cmpQ cmpRat cmpI
  split
  · split
    · exact .inl rfl
    · split
      · exact .inr (.inr rfl)
      · exact .inr (.inl rfl)
  · exact .inr (.inl rfl)
theorem sg_w {sg c:Int} (h:sg=1∨sg = -1) (hc:c = -1∨c=0∨c=1):IntKind.i64.wrap (sg*c)=sg*c:=by
  refine w64 ?_
  rcases h with rfl | rfl <;> rcases hc with rfl | rfl | rfl <;> decide
section
variable (A:List (List RatD)) (B C x:List RatD) (sg:Int) (hA:A.length≤1048576) (hr:∀ i,i<A.length→(mx A i).length≤1048576) (hB:B.length≤1048576) (hC:C.length≤1048576) (hx:x.length≤1048576) (hsg:sg=1∨sg = -1)
include hA hr hB hC hx hsg
set_option maxHeartbeats 2000000 in
theorem implFeasA:AFn 48 [.d (lpD A B C),.d (ratsD x),.d (.int sg)] [] (fun r os=>r=.d (.bool (feasF A B C x sg))∧os=[]):=by
  refine afn_of (rv:=[.tmp 6]) tyT_ok Try.func48 rfl (by decide +kernel) Try.ntmps48 rfl (by simp) ?_
  repeat' (first | refine awp_seq ?_ | refine stp ?_ | refine blk_o (by decide) ?_ | (apply awp_condB;(focus (simp (disch:=(first | omega | (simp;omega))) only [go_sem,w64,lpD];try exact rfl));first | with_reducible refine condOf_t ?_ | with_reducible refine condOf_f ?_) | (refine awp_region' tyT_ok ?_;intro K hK) | (refine awp_drawA ?_;intro K hK) | (with_reducible refine hK _ ?_;clear hK K) | (refine stq ?_;simp (disch:=(first | omega | (simp;omega))) only [go_sem,w64,lpD]) | refine and_side ?_ | fail)
  (first | refine callA (implLpA A B C hA hr hB hC) ?_ | refine callD (implLpA A B C hA hr hB hC) ?_ | refine callE (implLpA A B C hA hr hB hC) ?_ | refine callF (implLpA A B C hA hr hB hC) ?_ ?_)
  cases h1:lpV A B C with
  | false =>
    repeat' (first | refine awp_seq ?_ | refine stp ?_ | refine blk_o (by decide) ?_ | (apply awp_condB;(focus (simp (disch:=(first | omega | (simp;omega))) only [go_sem,w64,lpD];try exact rfl));first | with_reducible refine condOf_t ?_ | with_reducible refine condOf_f ?_) | (refine awp_region' tyT_ok ?_;intro K hK) | (refine awp_drawA ?_;intro K hK) | (with_reducible refine hK _ ?_;clear hK K) | (refine stq ?_;simp (disch:=(first | omega | (simp;omega))) only [go_sem,w64,lpD]) | refine and_side ?_ | fail)
    (refine endA (r:=.d (.bool false)) ?_)
    exact ⟨by unfold feasF;rw [h1];rfl,rfl⟩
  | true =>
    have hmv:=implMvA A x hA hr hx
    obtain ⟨_,_,hmo,_,_⟩:=lpV_out h1
    have hAB:=(matOK_out hmo).1
    by_cases h2:((x.length:Nat):Int)=(C.length:Nat)
    · have y2:decide (((x.length:Nat):Int)=(C.length:Nat))=true:=decide_eq_true h2
      have e2:decide (x.length=C.length)=true:=decide_eq_true (by omega)
      repeat' (first | refine awp_seq ?_ | refine stp ?_ | refine blk_o (by decide) ?_ | (apply awp_condB;(focus (simp (disch:=(first | omega | (simp;omega))) only [go_sem,w64,lpD,y2];try exact rfl));first | with_reducible refine condOf_t ?_ | with_reducible refine condOf_f ?_) | (refine awp_region' tyT_ok ?_;intro K hK) | (refine awp_drawA ?_;intro K hK) | (with_reducible refine hK _ ?_;clear hK K) | (refine stq ?_;simp (disch:=(first | omega | (simp;omega))) only [go_sem,w64,lpD,y2]) | refine and_side ?_ | fail)
      (first | refine callA (allValidA x hx) ?_ | refine callD (allValidA x hx) ?_ | refine callE (allValidA x hx) ?_ | refine callF (allValidA x hx) ?_ ?_)
      cases h3:vL x with
      | false =>
        repeat' (first | refine awp_seq ?_ | refine stp ?_ | refine blk_o (by decide) ?_ | (apply awp_condB;(focus (simp (disch:=(first | omega | (simp;omega))) only [go_sem,w64,lpD];try exact rfl));first | with_reducible refine condOf_t ?_ | with_reducible refine condOf_f ?_) | (refine awp_region' tyT_ok ?_;intro K hK) | (refine awp_drawA ?_;intro K hK) | (with_reducible refine hK _ ?_;clear hK K) | (refine stq ?_;simp (disch:=(first | omega | (simp;omega))) only [go_sem,w64,lpD]) | refine and_side ?_ | fail)
        (refine endA (r:=.d (.bool false)) ?_)
        exact ⟨by unfold feasF;rw [h1,e2,h3];rfl,rfl⟩
      | true =>
        repeat' (first | refine awp_seq ?_ | refine stp ?_ | refine blk_o (by decide) ?_ | (apply awp_condB;(focus (simp (disch:=(first | omega | (simp;omega))) only [go_sem,w64,lpD,ratsD];try exact rfl));first | with_reducible refine condOf_t ?_ | with_reducible refine condOf_f ?_) | (refine awp_region' tyT_ok ?_;intro K hK) | (refine awp_drawA ?_;intro K hK) | (with_reducible refine hK _ ?_;clear hK K) | (refine stq ?_;simp (disch:=(first | omega | (simp;omega))) only [go_sem,w64,lpD,ratsD]) | refine and_side ?_ | fail)
        refine awp_loopw (fun mm s=>∃ i,mm=x.length - i∧i≤x.length∧(∀ j,j<i→0≤(qx x j).num)∧s=mkS [(1,.d (ratsD x)),(2,.d (.int sg)),(3,.ptr 3 0),(29,.d (ratsD x)),(30,.d (.int (x.length:Nat))),(31,.d (.int (i:Nat)))] [(3,[.d (matD A),.d (ratsD B),.d (ratsD C)])]) ?_ ?_
        · refine ⟨_,_,?_,0,rfl,Nat.zero_le _,fun j h=>absurd h (Nat.not_lt_zero _),rfl⟩
          (refine sle_mk ?_ ?_ <;> simp (disch:=(first | omega | (simp;omega))) only [go_sem,w64,ratsD,matD] <;> exact leafs)
        · rintro mm s ⟨i,rfl,hi,hd,rfl⟩
          repeat' (first | refine awp_seq ?_ | refine stp ?_ | refine blk_o (by decide) ?_ | (apply awp_condB;(focus (simp (disch:=(first | omega | (simp;omega))) only [go_sem,w64,ratsD];try exact rfl));first | with_reducible refine condOf_t ?_ | with_reducible refine condOf_f ?_) | (refine awp_region' tyT_ok ?_;intro K hK) | (refine awp_drawA ?_;intro K hK) | (with_reducible refine hK _ ?_;clear hK K) | (refine stq ?_;simp (disch:=(first | omega | (simp;omega))) only [go_sem,w64,ratsD]) | refine and_side ?_ | fail)
          refine awp_if (p:=(i:Int)<(x.length:Nat)) (by simp (disch:=(first | omega | (simp;omega))) only [go_sem,w64]) ?_ ?_ <;> intro hc
          · have hi2:i<x.length:=by omega
            have g0:(x.map ratDV).getD i (.bool false)=ratDV (qx x i):=getDq hi2
            repeat' (first | refine awp_seq ?_ | refine stp ?_ | refine blk_o (by decide) ?_ | (apply awp_condB;(focus (simp (disch:=(first | omega | (simp;omega))) only [go_sem,w64,ratsD,g0,ratDV];try exact rfl));first | with_reducible refine condOf_t ?_ | with_reducible refine condOf_f ?_) | (refine awp_region' tyT_ok ?_;intro K hK) | (refine awp_drawA ?_;intro K hK) | (with_reducible refine hK _ ?_;clear hK K) | (refine stq ?_;simp (disch:=(first | omega | (simp;omega))) only [go_sem,w64,ratsD,g0,ratDV]) | refine and_side ?_ | fail)
            refine awp_if (p:=(qx x i).num<0) (by simp (disch:=(first | omega | (simp;omega))) only [go_sem,w64]) ?_ ?_ <;> intro hc2
            · repeat' (first | refine awp_seq ?_ | refine stp ?_ | refine blk_o (by decide) ?_ | (apply awp_condB;(focus (simp (disch:=(first | omega | (simp;omega))) only [go_sem,w64];try exact rfl));first | with_reducible refine condOf_t ?_ | with_reducible refine condOf_f ?_) | (refine awp_region' tyT_ok ?_;intro K hK) | (refine awp_drawA ?_;intro K hK) | (with_reducible refine hK _ ?_;clear hK K) | (refine stq ?_;simp (disch:=(first | omega | (simp;omega))) only [go_sem,w64]) | refine and_side ?_ | fail)
              (refine endA (r:=.d (.bool false)) ?_)
              exact ⟨by unfold feasF;rw [h1,e2,h3,posL_no hi2 (by omega)];rfl,rfl⟩
            · repeat' (first | refine awp_seq ?_ | refine stp ?_ | refine blk_o (by decide) ?_ | (apply awp_condB;(focus (simp (disch:=(first | omega | (simp;omega))) only [go_sem,w64];try exact rfl));first | with_reducible refine condOf_t ?_ | with_reducible refine condOf_f ?_) | (refine awp_region' tyT_ok ?_;intro K hK) | (refine awp_drawA ?_;intro K hK) | (with_reducible refine hK _ ?_;clear hK K) | (refine stq ?_;simp (disch:=(first | omega | (simp;omega))) only [go_sem,w64]) | refine and_side ?_ | fail)
              refine ⟨x.length - (i+1),_,by omega,?_,i+1,rfl,by omega,fun j hj=>?_,rfl⟩
              · (refine sle_mk ?_ ?_ <;> simp (disch:=(first | omega | (simp;omega))) only [go_sem,w64,ratsD,matD] <;> exact leafs)
              · by_cases e:j=i
                · subst e;omega
                · exact hd j (by omega)
          · obtain rfl:i=x.length:=by omega
            have h4:=posL_yes hd
            repeat' (first | refine awp_seq ?_ | refine stp ?_ | refine blk_o (by decide) ?_ | (apply awp_condB;(focus (simp (disch:=(first | omega | (simp;omega))) only [go_sem,w64,ratsD,matD];try exact rfl));first | with_reducible refine condOf_t ?_ | with_reducible refine condOf_f ?_) | (refine awp_region' tyT_ok ?_;intro K hK) | (refine awp_drawA ?_;intro K hK) | (with_reducible refine hK _ ?_;clear hK K) | (refine stq ?_;simp (disch:=(first | omega | (simp;omega))) only [go_sem,w64,ratsD,matD]) | refine and_side ?_ | fail)
            (first | refine callA (hmv) ?_ | refine callD (hmv) ?_ | refine callE (hmv) ?_ | refine callF (hmv) ?_ ?_)
            cases h5:mvF A x with
            | none =>
              repeat' (first | refine awp_seq ?_ | refine stp ?_ | refine blk_o (by decide) ?_ | (apply awp_condB;(focus (simp (disch:=(first | omega | (simp;omega))) only [go_sem,w64,ansL];try exact rfl));first | with_reducible refine condOf_t ?_ | with_reducible refine condOf_f ?_) | (refine awp_region' tyT_ok ?_;intro K hK) | (refine awp_drawA ?_;intro K hK) | (with_reducible refine hK _ ?_;clear hK K) | (refine stq ?_;simp (disch:=(first | omega | (simp;omega))) only [go_sem,w64,ansL]) | refine and_side ?_ | fail)
              (refine endA (r:=.d (.bool false)) ?_)
              exact ⟨by unfold feasF;rw [h1,e2,h3,h4,h5];rfl,rfl⟩
            | some l =>
              have hll:l.length=A.length:=mvTo_len h5
              have hfe:feasF A B C x sg=sideL l B sg:=by unfold feasF;rw [h1,e2,h3,h4,h5];rfl
              repeat' (first | refine awp_seq ?_ | refine stp ?_ | refine blk_o (by decide) ?_ | (apply awp_condB;(focus (simp (disch:=(first | omega | (simp;omega))) only [go_sem,w64,ansL,ratsD];try exact rfl));first | with_reducible refine condOf_t ?_ | with_reducible refine condOf_f ?_) | (refine awp_region' tyT_ok ?_;intro K hK) | (refine awp_drawA ?_;intro K hK) | (with_reducible refine hK _ ?_;clear hK K) | (refine stq ?_;simp (disch:=(first | omega | (simp;omega))) only [go_sem,w64,ansL,ratsD]) | refine and_side ?_ | fail)
              refine awp_loopw (fun mm s=>∃ i,mm=l.length - i∧i≤l.length∧(∀ j,j<i→¬ sg*cmpQ (qx l j) (qx B j)<0)∧s=mkS [(2,.d (.int sg)),(3,.ptr 3 0),(48,.d (ratsD l)),(49,.d (.int (l.length:Nat))),(50,.d (.int (i:Nat)))] [(3,[.d (matD A),.d (ratsD B),.d (ratsD C)])]) ?_ ?_
              · refine ⟨_,_,?_,0,rfl,Nat.zero_le _,fun j h=>absurd h (Nat.not_lt_zero _),rfl⟩
                (refine sle_mk ?_ ?_ <;> simp (disch:=(first | omega | (simp;omega))) only [go_sem,w64,ratsD,matD] <;> exact leafs)
              · rintro mm s ⟨i,rfl,hi,hd2,rfl⟩
                repeat' (first | refine awp_seq ?_ | refine stp ?_ | refine blk_o (by decide) ?_ | (apply awp_condB;(focus (simp (disch:=(first | omega | (simp;omega))) only [go_sem,w64,ratsD];try exact rfl));first | with_reducible refine condOf_t ?_ | with_reducible refine condOf_f ?_) | (refine awp_region' tyT_ok ?_;intro K hK) | (refine awp_drawA ?_;intro K hK) | (with_reducible refine hK _ ?_;clear hK K) | (refine stq ?_;simp (disch:=(first | omega | (simp;omega))) only [go_sem,w64,ratsD]) | refine and_side ?_ | fail)
                refine awp_if (p:=(i:Int)<(l.length:Nat)) (by simp (disch:=(first | omega | (simp;omega))) only [go_sem,w64]) ?_ ?_ <;> intro hc2
                · have hi2:i<l.length:=by omega
                  have hi3:i<B.length:=by omega
                  have g0:(l.map ratDV).getD i (.bool false)=ratDV (qx l i):=getDq hi2
                  have g1:(B.map ratDV).getD i (.bool false)=ratDV (qx B i):=getDq hi3
                  have w1:=sg_w hsg (cmpQ_rg (qx l i) (qx B i))
                  repeat' (first | refine awp_seq ?_ | refine stp ?_ | refine blk_o (by decide) ?_ | (apply awp_condB;(focus (simp (disch:=(first | omega | (simp;omega))) only [go_sem,w64,ratsD,g0,g1,ratDV];try exact rfl));first | with_reducible refine condOf_t ?_ | with_reducible refine condOf_f ?_) | (refine awp_region' tyT_ok ?_;intro K hK) | (refine awp_drawA ?_;intro K hK) | (with_reducible refine hK _ ?_;clear hK K) | (refine stq ?_;simp (disch:=(first | omega | (simp;omega))) only [go_sem,w64,ratsD,g0,g1,ratDV]) | refine and_side ?_ | fail)
                  (first | refine callA (implCmpA (qx l i) (qx B i)) ?_ | refine callD (implCmpA (qx l i) (qx B i)) ?_ | refine callE (implCmpA (qx l i) (qx B i)) ?_ | refine callF (implCmpA (qx l i) (qx B i)) ?_ ?_)
                  generalize hcc:cmpQ (qx l i) (qx B i)=c at w1
                  repeat' (first | refine awp_seq ?_ | refine stp ?_ | refine blk_o (by decide) ?_ | (apply awp_condB;(focus (simp (disch:=(first | omega | (simp;omega))) only [go_sem,w64,w1];try exact rfl));first | with_reducible refine condOf_t ?_ | with_reducible refine condOf_f ?_) | (refine awp_region' tyT_ok ?_;intro K hK) | (refine awp_drawA ?_;intro K hK) | (with_reducible refine hK _ ?_;clear hK K) | (refine stq ?_;simp (disch:=(first | omega | (simp;omega))) only [go_sem,w64,w1]) | refine and_side ?_ | fail)
                  refine awp_if (p:=sg*c<0) (by simp (disch:=(first | omega | (simp;omega))) only [go_sem,w64]) ?_ ?_ <;> intro hc3
                  · repeat' (first | refine awp_seq ?_ | refine stp ?_ | refine blk_o (by decide) ?_ | (apply awp_condB;(focus (simp (disch:=(first | omega | (simp;omega))) only [go_sem,w64];try exact rfl));first | with_reducible refine condOf_t ?_ | with_reducible refine condOf_f ?_) | (refine awp_region' tyT_ok ?_;intro K hK) | (refine awp_drawA ?_;intro K hK) | (with_reducible refine hK _ ?_;clear hK K) | (refine stq ?_;simp (disch:=(first | omega | (simp;omega))) only [go_sem,w64]) | refine and_side ?_ | fail)
                    (refine endA (r:=.d (.bool false)) ?_)
                    exact ⟨by rw [hfe,sideL_no hi2 (by rw [hcc];exact hc3)],rfl⟩
                  · repeat' (first | refine awp_seq ?_ | refine stp ?_ | refine blk_o (by decide) ?_ | (apply awp_condB;(focus (simp (disch:=(first | omega | (simp;omega))) only [go_sem,w64];try exact rfl));first | with_reducible refine condOf_t ?_ | with_reducible refine condOf_f ?_) | (refine awp_region' tyT_ok ?_;intro K hK) | (refine awp_drawA ?_;intro K hK) | (with_reducible refine hK _ ?_;clear hK K) | (refine stq ?_;simp (disch:=(first | omega | (simp;omega))) only [go_sem,w64]) | refine and_side ?_ | fail)
                    refine ⟨l.length - (i+1),_,by omega,?_,i+1,rfl,by omega,fun j hj=>?_,rfl⟩
                    · (refine sle_mk ?_ ?_ <;> simp (disch:=(first | omega | (simp;omega))) only [go_sem,w64,ratsD,matD] <;> exact leafs)
                    · by_cases e:j=i
                      · subst e;rw [hcc];exact hc3
                      · exact hd2 j (by omega)
                · obtain rfl:i=l.length:=by omega
                  repeat' (first | refine awp_seq ?_ | refine stp ?_ | refine blk_o (by decide) ?_ | (apply awp_condB;(focus (simp (disch:=(first | omega | (simp;omega))) only [go_sem,w64];try exact rfl));first | with_reducible refine condOf_t ?_ | with_reducible refine condOf_f ?_) | (refine awp_region' tyT_ok ?_;intro K hK) | (refine awp_drawA ?_;intro K hK) | (with_reducible refine hK _ ?_;clear hK K) | (refine stq ?_;simp (disch:=(first | omega | (simp;omega))) only [go_sem,w64]) | refine and_side ?_ | fail)
                  (refine endA (r:=.d (.bool true)) ?_)
                  exact ⟨by rw [hfe,sideL_yes hd2],rfl⟩
    · have y2:decide (((x.length:Nat):Int)=(C.length:Nat))=false:=decide_eq_false h2
      repeat' (first | refine awp_seq ?_ | refine stp ?_ | refine blk_o (by decide) ?_ | (apply awp_condB;(focus (simp (disch:=(first | omega | (simp;omega))) only [go_sem,w64,lpD,y2];try exact rfl));first | with_reducible refine condOf_t ?_ | with_reducible refine condOf_f ?_) | (refine awp_region' tyT_ok ?_;intro K hK) | (refine awp_drawA ?_;intro K hK) | (with_reducible refine hK _ ?_;clear hK K) | (refine stq ?_;simp (disch:=(first | omega | (simp;omega))) only [go_sem,w64,lpD,y2]) | refine and_side ?_ | fail)
      (refine endA (r:=.d (.bool false)) ?_)
      exact ⟨by unfold feasF;rw [decide_eq_false (by omega)];simp,rfl⟩
set_option maxHeartbeats 2000000 in
theorem specSideA:AFn 38 [.d (lpD A B C),.d (ratsD x),.d (.int sg)] [] (fun r os=>r=.d (.bool (feasF A B C x sg))∧os=[]):=by
  refine afn_of (rv:=[.tmp 6]) tyT_ok Try.func38 rfl (by decide +kernel) Try.ntmps38 rfl (by simp) ?_
  repeat' (first | refine awp_seq ?_ | refine stp ?_ | refine blk_o (by decide) ?_ | (apply awp_condB;(focus (simp (disch:=(first | omega | (simp;omega))) only [go_sem,w64,lpD];try exact rfl));first | with_reducible refine condOf_t ?_ | with_reducible refine condOf_f ?_) | (refine awp_region' tyT_ok ?_;intro K hK) | (refine awp_drawA ?_;intro K hK) | (with_reducible refine hK _ ?_;clear hK K) | (refine stq ?_;simp (disch:=(first | omega | (simp;omega))) only [go_sem,w64,lpD]) | refine and_side ?_ | fail)
  (first | refine callA (specLpA A B C hA hB hC) ?_ | refine callD (specLpA A B C hA hB hC) ?_ | refine callE (specLpA A B C hA hB hC) ?_ | refine callF (specLpA A B C hA hB hC) ?_ ?_)
  cases h1:lpV A B C with
  | false =>
    repeat' (first | refine awp_seq ?_ | refine stp ?_ | refine blk_o (by decide) ?_ | (apply awp_condB;(focus (simp (disch:=(first | omega | (simp;omega))) only [go_sem,w64,lpD];try exact rfl));first | with_reducible refine condOf_t ?_ | with_reducible refine condOf_f ?_) | (refine awp_region' tyT_ok ?_;intro K hK) | (refine awp_drawA ?_;intro K hK) | (with_reducible refine hK _ ?_;clear hK K) | (refine stq ?_;simp (disch:=(first | omega | (simp;omega))) only [go_sem,w64,lpD]) | refine and_side ?_ | fail)
    (refine endA (r:=.d (.bool false)) ?_)
    exact ⟨by unfold feasF;rw [h1];rfl,rfl⟩
  | true =>
    have hmv:=specMvA A x hA hr hx
    obtain ⟨_,_,hmo,_,_⟩:=lpV_out h1
    have hAB:=(matOK_out hmo).1
    by_cases h2:((x.length:Nat):Int)=(C.length:Nat)
    · have y2:decide (((x.length:Nat):Int)=(C.length:Nat))=true:=decide_eq_true h2
      have e2:decide (x.length=C.length)=true:=decide_eq_true (by omega)
      repeat' (first | refine awp_seq ?_ | refine stp ?_ | refine blk_o (by decide) ?_ | (apply awp_condB;(focus (simp (disch:=(first | omega | (simp;omega))) only [go_sem,w64,lpD,y2];try exact rfl));first | with_reducible refine condOf_t ?_ | with_reducible refine condOf_f ?_) | (refine awp_region' tyT_ok ?_;intro K hK) | (refine awp_drawA ?_;intro K hK) | (with_reducible refine hK _ ?_;clear hK K) | (refine stq ?_;simp (disch:=(first | omega | (simp;omega))) only [go_sem,w64,lpD,y2]) | refine and_side ?_ | fail)
      refine awp_loopw (fun mm s=>∃ i,mm=x.length - i∧i≤x.length∧(∀ j,j<i→vR (qx x j)=true∧0≤(qx x j).num)∧s=mkS [(1,.d (ratsD x)),(2,.d (.int sg)),(3,.ptr 3 0),(7,.d (.int (i:Nat)))] [(3,[.d (matD A),.d (ratsD B),.d (ratsD C)])]) ?_ ?_
      · refine ⟨_,_,?_,0,rfl,Nat.zero_le _,fun j h=>absurd h (Nat.not_lt_zero _),rfl⟩
        (refine sle_mk ?_ ?_ <;> simp (disch:=(first | omega | (simp;omega))) only [go_sem,w64,ratsD,matD] <;> exact leafs)
      · rintro mm s ⟨i,rfl,hi,hd,rfl⟩
        repeat' (first | refine awp_seq ?_ | refine stp ?_ | refine blk_o (by decide) ?_ | (apply awp_condB;(focus (simp (disch:=(first | omega | (simp;omega))) only [go_sem,w64,ratsD];try exact rfl));first | with_reducible refine condOf_t ?_ | with_reducible refine condOf_f ?_) | (refine awp_region' tyT_ok ?_;intro K hK) | (refine awp_drawA ?_;intro K hK) | (with_reducible refine hK _ ?_;clear hK K) | (refine stq ?_;simp (disch:=(first | omega | (simp;omega))) only [go_sem,w64,ratsD]) | refine and_side ?_ | fail)
        refine awp_if (p:=(i:Int)<(x.length:Nat)) (by simp (disch:=(first | omega | (simp;omega))) only [go_sem,w64]) ?_ ?_ <;> intro hc
        · have hi2:i<x.length:=by omega
          have g0:(x.map ratDV).getD i (.bool false)=ratDV (qx x i):=getDq hi2
          repeat' (first | refine awp_seq ?_ | refine stp ?_ | refine blk_o (by decide) ?_ | (apply awp_condB;(focus (simp (disch:=(first | omega | (simp;omega))) only [go_sem,w64,ratsD,g0,ratDV];try exact rfl));first | with_reducible refine condOf_t ?_ | with_reducible refine condOf_f ?_) | (refine awp_region' tyT_ok ?_;intro K hK) | (refine awp_drawA ?_;intro K hK) | (with_reducible refine hK _ ?_;clear hK K) | (refine stq ?_;simp (disch:=(first | omega | (simp;omega))) only [go_sem,w64,ratsD,g0,ratDV]) | refine and_side ?_ | fail)
          (first | refine callA (specValidRA (qx x i)) ?_ | refine callD (specValidRA (qx x i)) ?_ | refine callE (specValidRA (qx x i)) ?_ | refine callF (specValidRA (qx x i)) ?_ ?_)
          cases hv:vR (qx x i) with
          | false =>
            repeat' (first | refine awp_seq ?_ | refine stp ?_ | refine blk_o (by decide) ?_ | (apply awp_condB;(focus (simp (disch:=(first | omega | (simp;omega))) only [go_sem,w64];try exact rfl));first | with_reducible refine condOf_t ?_ | with_reducible refine condOf_f ?_) | (refine awp_region' tyT_ok ?_;intro K hK) | (refine awp_drawA ?_;intro K hK) | (with_reducible refine hK _ ?_;clear hK K) | (refine stq ?_;simp (disch:=(first | omega | (simp;omega))) only [go_sem,w64]) | refine and_side ?_ | fail)
            (refine endA (r:=.d (.bool false)) ?_)
            exact ⟨by unfold feasF;rw [h1,e2,vL_no hi2 hv];rfl,rfl⟩
          | true =>
            by_cases hc2:(qx x i).num<0
            · have z2:decide ((qx x i).num<0)=true:=decide_eq_true hc2
              repeat' (first | refine awp_seq ?_ | refine stp ?_ | refine blk_o (by decide) ?_ | (apply awp_condB;(focus (simp (disch:=(first | omega | (simp;omega))) only [go_sem,w64,ratsD,g0,ratDV,z2];try exact rfl));first | with_reducible refine condOf_t ?_ | with_reducible refine condOf_f ?_) | (refine awp_region' tyT_ok ?_;intro K hK) | (refine awp_drawA ?_;intro K hK) | (with_reducible refine hK _ ?_;clear hK K) | (refine stq ?_;simp (disch:=(first | omega | (simp;omega))) only [go_sem,w64,ratsD,g0,ratDV,z2]) | refine and_side ?_ | fail)
              (refine endA (r:=.d (.bool false)) ?_)
              exact ⟨by unfold feasF;rw [posL_no hi2 (by omega)];simp,rfl⟩
            · have z2:decide ((qx x i).num<0)=false:=decide_eq_false hc2
              repeat' (first | refine awp_seq ?_ | refine stp ?_ | refine blk_o (by decide) ?_ | (apply awp_condB;(focus (simp (disch:=(first | omega | (simp;omega))) only [go_sem,w64,ratsD,g0,ratDV,z2];try exact rfl));first | with_reducible refine condOf_t ?_ | with_reducible refine condOf_f ?_) | (refine awp_region' tyT_ok ?_;intro K hK) | (refine awp_drawA ?_;intro K hK) | (with_reducible refine hK _ ?_;clear hK K) | (refine stq ?_;simp (disch:=(first | omega | (simp;omega))) only [go_sem,w64,ratsD,g0,ratDV,z2]) | refine and_side ?_ | fail)
              refine ⟨x.length - (i+1),_,by omega,?_,i+1,rfl,by omega,fun j hj=>?_,rfl⟩
              · (refine sle_mk ?_ ?_ <;> simp (disch:=(first | omega | (simp;omega))) only [go_sem,w64,ratsD,matD] <;> exact leafs)
              · by_cases e:j=i
                · subst e;exact ⟨hv,by omega⟩
                · exact hd j (by omega)
        · obtain rfl:i=x.length:=by omega
          have h3:=vL_yes (fun j hj=>(hd j hj).1)
          have h4:=posL_yes (fun j hj=>(hd j hj).2)
          repeat' (first | refine awp_seq ?_ | refine stp ?_ | refine blk_o (by decide) ?_ | (apply awp_condB;(focus (simp (disch:=(first | omega | (simp;omega))) only [go_sem,w64,ratsD,matD];try exact rfl));first | with_reducible refine condOf_t ?_ | with_reducible refine condOf_f ?_) | (refine awp_region' tyT_ok ?_;intro K hK) | (refine awp_drawA ?_;intro K hK) | (with_reducible refine hK _ ?_;clear hK K) | (refine stq ?_;simp (disch:=(first | omega | (simp;omega))) only [go_sem,w64,ratsD,matD]) | refine and_side ?_ | fail)
          (first | refine callA (hmv) ?_ | refine callD (hmv) ?_ | refine callE (hmv) ?_ | refine callF (hmv) ?_ ?_)
          cases h5:mvF A x with
          | none =>
            repeat' (first | refine awp_seq ?_ | refine stp ?_ | refine blk_o (by decide) ?_ | (apply awp_condB;(focus (simp (disch:=(first | omega | (simp;omega))) only [go_sem,w64,ansL,ratsD,List.map_nil];try exact rfl));first | with_reducible refine condOf_t ?_ | with_reducible refine condOf_f ?_) | (refine awp_region' tyT_ok ?_;intro K hK) | (refine awp_drawA ?_;intro K hK) | (with_reducible refine hK _ ?_;clear hK K) | (refine stq ?_;simp (disch:=(first | omega | (simp;omega))) only [go_sem,w64,ansL,ratsD,List.map_nil]) | refine and_side ?_ | fail)
            refine awp_loopw (fun mm s=>mm=0∧s=mkS [(8,.d (.sl 2 [])),(9,.d (.bool false)),(10,.d (.int 0))] []) ?_ ?_
            · refine ⟨_,_,?_,rfl,rfl⟩
              (refine sle_mk ?_ ?_ <;> simp (disch:=(first | omega | (simp;omega))) only [go_sem,w64,ratsD,matD] <;> exact leafs)
            · rintro mm s ⟨rfl,rfl⟩
              have z0:decide ((0:Int)<((0:Nat):Int))=false:=rfl
              repeat' (first | refine awp_seq ?_ | refine stp ?_ | refine blk_o (by decide) ?_ | (apply awp_condB;(focus (simp (disch:=(first | omega | (simp;omega))) only [go_sem,w64,List.length_nil,z0];try exact rfl));first | with_reducible refine condOf_t ?_ | with_reducible refine condOf_f ?_) | (refine awp_region' tyT_ok ?_;intro K hK) | (refine awp_drawA ?_;intro K hK) | (with_reducible refine hK _ ?_;clear hK K) | (refine stq ?_;simp (disch:=(first | omega | (simp;omega))) only [go_sem,w64,List.length_nil,z0]) | refine and_side ?_ | fail)
              (refine endA (r:=.d (.bool false)) ?_)
              exact ⟨by unfold feasF;rw [h1,e2,h3,h4,h5];rfl,rfl⟩
          | some l =>
            have hll:l.length=A.length:=mvTo_len h5
            have hfe:feasF A B C x sg=sideL l B sg:=by unfold feasF;rw [h1,e2,h3,h4,h5];rfl
            repeat' (first | refine awp_seq ?_ | refine stp ?_ | refine blk_o (by decide) ?_ | (apply awp_condB;(focus (simp (disch:=(first | omega | (simp;omega))) only [go_sem,w64,ansL,ratsD];try exact rfl));first | with_reducible refine condOf_t ?_ | with_reducible refine condOf_f ?_) | (refine awp_region' tyT_ok ?_;intro K hK) | (refine awp_drawA ?_;intro K hK) | (with_reducible refine hK _ ?_;clear hK K) | (refine stq ?_;simp (disch:=(first | omega | (simp;omega))) only [go_sem,w64,ansL,ratsD]) | refine and_side ?_ | fail)
            refine awp_loopw (fun mm s=>∃ i,mm=l.length - i∧i≤l.length∧(∀ j,j<i→¬ sg*cmpQ (qx l j) (qx B j)<0)∧s=mkS [(2,.d (.int sg)),(3,.ptr 3 0),(8,.d (ratsD l)),(9,.d (.bool true)),(10,.d (.int (i:Nat)))] [(3,[.d (matD A),.d (ratsD B),.d (ratsD C)])]) ?_ ?_
            · refine ⟨_,_,?_,0,rfl,Nat.zero_le _,fun j h=>absurd h (Nat.not_lt_zero _),rfl⟩
              (refine sle_mk ?_ ?_ <;> simp (disch:=(first | omega | (simp;omega))) only [go_sem,w64,ratsD,matD] <;> exact leafs)
            · rintro mm s ⟨i,rfl,hi,hd2,rfl⟩
              repeat' (first | refine awp_seq ?_ | refine stp ?_ | refine blk_o (by decide) ?_ | (apply awp_condB;(focus (simp (disch:=(first | omega | (simp;omega))) only [go_sem,w64,ratsD];try exact rfl));first | with_reducible refine condOf_t ?_ | with_reducible refine condOf_f ?_) | (refine awp_region' tyT_ok ?_;intro K hK) | (refine awp_drawA ?_;intro K hK) | (with_reducible refine hK _ ?_;clear hK K) | (refine stq ?_;simp (disch:=(first | omega | (simp;omega))) only [go_sem,w64,ratsD]) | refine and_side ?_ | fail)
              refine awp_if (p:=(i:Int)<(l.length:Nat)) (by simp (disch:=(first | omega | (simp;omega))) only [go_sem,w64]) ?_ ?_ <;> intro hc2
              · have hi2:i<l.length:=by omega
                have hi3:i<B.length:=by omega
                have g0:(l.map ratDV).getD i (.bool false)=ratDV (qx l i):=getDq hi2
                have g1:(B.map ratDV).getD i (.bool false)=ratDV (qx B i):=getDq hi3
                have w1:=sg_w hsg (cmpQ_rg (qx l i) (qx B i))
                rw [Int.mul_comm] at w1
                repeat' (first | refine awp_seq ?_ | refine stp ?_ | refine blk_o (by decide) ?_ | (apply awp_condB;(focus (simp (disch:=(first | omega | (simp;omega))) only [go_sem,w64,ratsD,g0,g1,ratDV];try exact rfl));first | with_reducible refine condOf_t ?_ | with_reducible refine condOf_f ?_) | (refine awp_region' tyT_ok ?_;intro K hK) | (refine awp_drawA ?_;intro K hK) | (with_reducible refine hK _ ?_;clear hK K) | (refine stq ?_;simp (disch:=(first | omega | (simp;omega))) only [go_sem,w64,ratsD,g0,g1,ratDV]) | refine and_side ?_ | fail)
                (first | refine callA (specCmpA (qx l i) (qx B i)) ?_ | refine callD (specCmpA (qx l i) (qx B i)) ?_ | refine callE (specCmpA (qx l i) (qx B i)) ?_ | refine callF (specCmpA (qx l i) (qx B i)) ?_ ?_)
                generalize hcc:cmpQ (qx l i) (qx B i)=c at w1
                repeat' (first | refine awp_seq ?_ | refine stp ?_ | refine blk_o (by decide) ?_ | (apply awp_condB;(focus (simp (disch:=(first | omega | (simp;omega))) only [go_sem,w64,w1];try exact rfl));first | with_reducible refine condOf_t ?_ | with_reducible refine condOf_f ?_) | (refine awp_region' tyT_ok ?_;intro K hK) | (refine awp_drawA ?_;intro K hK) | (with_reducible refine hK _ ?_;clear hK K) | (refine stq ?_;simp (disch:=(first | omega | (simp;omega))) only [go_sem,w64,w1]) | refine and_side ?_ | fail)
                refine awp_if (p:=c*sg<0) (by simp (disch:=(first | omega | (simp;omega))) only [go_sem,w64]) ?_ ?_ <;> intro hc3
                · repeat' (first | refine awp_seq ?_ | refine stp ?_ | refine blk_o (by decide) ?_ | (apply awp_condB;(focus (simp (disch:=(first | omega | (simp;omega))) only [go_sem,w64];try exact rfl));first | with_reducible refine condOf_t ?_ | with_reducible refine condOf_f ?_) | (refine awp_region' tyT_ok ?_;intro K hK) | (refine awp_drawA ?_;intro K hK) | (with_reducible refine hK _ ?_;clear hK K) | (refine stq ?_;simp (disch:=(first | omega | (simp;omega))) only [go_sem,w64]) | refine and_side ?_ | fail)
                  (refine endA (r:=.d (.bool false)) ?_)
                  exact ⟨by rw [hfe,sideL_no hi2 (by rw [hcc,Int.mul_comm];exact hc3)],rfl⟩
                · repeat' (first | refine awp_seq ?_ | refine stp ?_ | refine blk_o (by decide) ?_ | (apply awp_condB;(focus (simp (disch:=(first | omega | (simp;omega))) only [go_sem,w64];try exact rfl));first | with_reducible refine condOf_t ?_ | with_reducible refine condOf_f ?_) | (refine awp_region' tyT_ok ?_;intro K hK) | (refine awp_drawA ?_;intro K hK) | (with_reducible refine hK _ ?_;clear hK K) | (refine stq ?_;simp (disch:=(first | omega | (simp;omega))) only [go_sem,w64]) | refine and_side ?_ | fail)
                  refine ⟨l.length - (i+1),_,by omega,?_,i+1,rfl,by omega,fun j hj=>?_,rfl⟩
                  · (refine sle_mk ?_ ?_ <;> simp (disch:=(first | omega | (simp;omega))) only [go_sem,w64,ratsD,matD] <;> exact leafs)
                  · by_cases e:j=i
                    · subst e;rw [hcc,Int.mul_comm];exact hc3
                    · exact hd2 j (by omega)
              · obtain rfl:i=l.length:=by omega
                repeat' (first | refine awp_seq ?_ | refine stp ?_ | refine blk_o (by decide) ?_ | (apply awp_condB;(focus (simp (disch:=(first | omega | (simp;omega))) only [go_sem,w64];try exact rfl));first | with_reducible refine condOf_t ?_ | with_reducible refine condOf_f ?_) | (refine awp_region' tyT_ok ?_;intro K hK) | (refine awp_drawA ?_;intro K hK) | (with_reducible refine hK _ ?_;clear hK K) | (refine stq ?_;simp (disch:=(first | omega | (simp;omega))) only [go_sem,w64]) | refine and_side ?_ | fail)
                (refine endA (r:=.d (.bool true)) ?_)
                exact ⟨by rw [hfe,sideL_yes hd2],rfl⟩
    · have y2:decide (((x.length:Nat):Int)=(C.length:Nat))=false:=decide_eq_false h2
      repeat' (first | refine awp_seq ?_ | refine stp ?_ | refine blk_o (by decide) ?_ | (apply awp_condB;(focus (simp (disch:=(first | omega | (simp;omega))) only [go_sem,w64,lpD,y2];try exact rfl));first | with_reducible refine condOf_t ?_ | with_reducible refine condOf_f ?_) | (refine awp_region' tyT_ok ?_;intro K hK) | (refine awp_drawA ?_;intro K hK) | (with_reducible refine hK _ ?_;clear hK K) | (refine stq ?_;simp (disch:=(first | omega | (simp;omega))) only [go_sem,w64,lpD,y2]) | refine and_side ?_ | fail)
      (refine endA (r:=.d (.bool false)) ?_)
      exact ⟨by unfold feasF;rw [decide_eq_false (by omega)];simp,rfl⟩
end
end Go.Proofs.Ytpbclpopoodklaa
