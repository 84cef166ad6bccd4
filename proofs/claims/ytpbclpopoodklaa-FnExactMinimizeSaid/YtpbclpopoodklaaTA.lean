/- Lemmas for the proof of FnExactMaximize, part 43 of 56: no condition of their own. -/
import Derived.Test.YtpbclpopoodklaaSY
namespace Go.Proofs.Ytpbclpopoodklaa
set_option linter.unusedSimpArgs false
set_option linter.unusedVariables false
attribute [local go_sem ↓] reduceIte
attribute [local go_sem] Nat.reduceEqDiff Nat.reduceLT Nat.reduceAdd Nat.reduceLeDiff Nat.reduceMul Nat.reduceBEq Nat.reduceSub reduceCtorEq Int.reduceLE Int.reduceNeg Int.reduceLT
open Go.RowKit
structure BestS where
  pt:List RatD
  val:RatD
  found:Bool
def bestT (C:List RatD) (sg:Int) (st:BestS) (x:List RatD):BestS:=match dotF C x with
  | none=>st
  | some v=>if st.found=false∨sg*cmpQ v st.val<0 then ⟨x,v,true⟩ else st
theorem wq0:whQ []=.wh 2 []:=rfl
def best0:BestS:=⟨[],⟨0,0⟩,false⟩
def bestTo (C:List RatD) (V:List (List RatD)) (sg:Int) (i:Nat):BestS:=(V.take i).foldl (bestT C sg) best0
def bestF (C:List RatD) (V:List (List RatD)) (sg:Int):BestS:=V.foldl (bestT C sg) best0
theorem bestTo_succ (C:List RatD) {V:List (List RatD)} (sg:Int) {i:Nat} (h:i<V.length):bestTo C V sg (i+1)=bestT C sg (bestTo C V sg i) (mx V i):=by
  unfold bestTo
  rw [List.take_add_one,List.getElem?_eq_getElem h,List.foldl_append]
  simp [mx,h]
theorem bestTo_all (C:List RatD) (V:List (List RatD)) (sg:Int):bestTo C V sg V.length=bestF C V sg:=by unfold bestTo bestF;rw [List.take_length]
def ansB (b:BestS):AV:=.tup [.d (whQ b.pt),.d (ratDV b.val),.d (.bool b.found)]
def ansBS (b:BestS):AV:=.tup [.d (ratsD b.pt),.d (ratDV b.val),.d (.bool b.found)]
set_option maxHeartbeats 4000000 in
theorem implBestA (A:List (List RatD)) (B Cc:List RatD) (sg:Int) (hlp:lpV A B Cc=true) (hsg:sg=1∨sg = -1):AFn 33 [.d (lpD A B Cc),.d (.int sg)] [] (fun r os=>r=ansB (bestF Cc (vertF A B Cc sg) sg)∧os=[]):=by
  obtain ⟨_,hVl,hVn,hC5⟩:=vert_law (sg:=sg) hlp
  refine afn_of (rv:=[.tmp 4,.cell 5 39,.tmp 6]) tyW_ok Try.func33 rfl (by decide +kernel) Try.ntmps33 rfl (by simp) ?_
  repeat' (first | refine awp_seq ?_ | refine stp ?_ | refine blk_o (by decide) ?_ | (apply awp_condB;(focus (simp (disch:=(first | omega | (simp;omega))) only [go_sem,w64,lpD];try exact rfl));first | with_reducible refine condOf_t ?_ | with_reducible refine condOf_f ?_) | (refine awp_region' tyW_ok ?_;intro K hK) | (refine awp_drawA ?_;intro K hK) | (with_reducible refine hK _ ?_;clear hK K) | (refine stq ?_;simp (disch:=(first | omega | (simp;omega))) only [go_sem,w64,lpD]) | refine and_side ?_ | fail)
  (first | refine callA (implVertA A B Cc sg hlp hsg) ?_ | refine callD (implVertA A B Cc sg hlp hsg) ?_ | refine callE (implVertA A B Cc sg hlp hsg) ?_ | refine callF (implVertA A B Cc sg hlp hsg) ?_ ?_)
  generalize vertF A B Cc sg=V at *
  have hVm:(V.map whQ).length=V.length:=List.length_map ..
  repeat' (first | refine awp_seq ?_ | refine stp ?_ | refine blk_o (by decide) ?_ | (apply awp_condB;(focus (simp (disch:=(first | omega | (simp;omega))) only [go_sem,w64,lpD,hVm];try exact rfl));first | with_reducible refine condOf_t ?_ | with_reducible refine condOf_f ?_) | (refine awp_region' tyW_ok ?_;intro K hK) | (refine awp_drawA ?_;intro K hK) | (with_reducible refine hK _ ?_;clear hK K) | (refine stq ?_;simp (disch:=(first | omega | (simp;omega))) only [go_sem,w64,lpD,hVm]) | refine and_side ?_ | fail)
  refine awp_loopw (fun mm s=>∃ i b,mm=V.length - i∧i≤V.length∧b=bestTo Cc V sg i∧s=mkS [(1,.d (.int sg)),(2,.ptr 2 0),(5,.ptr 5 0),(7,.d (whQ b.pt)),(8,.ptr 8 0),(9,.d (.bool b.found)),(16,.d (.wh 1 (V.map whQ))),(17,.d (.int (V.length:Nat))),(18,.d (.int (i:Nat)))] [(2,[.d (matD A),.d (ratsD B),.d (ratsD Cc)]),(5,[.d (.int 0),.d (.int 0)]),(8,[.d (.int b.val.num),.d (.int b.val.den)])]) ?_ ?_
  · refine ⟨_,_,?_,0,best0,rfl,Nat.zero_le _,rfl,rfl⟩
    (refine sle_mk ?_ ?_ <;> simp (disch:=(first | omega | (simp;omega))) only [go_sem,w64,hVm,best0,wq0] <;> exact leafs)
  · rintro mm s ⟨i,b,rfl,hi,hb,rfl⟩
    obtain ⟨pt,val,found⟩:=b
    repeat' (first | refine awp_seq ?_ | refine stp ?_ | refine blk_o (by decide) ?_ | (apply awp_condB;(focus (simp (disch:=(first | omega | (simp;omega))) only [go_sem,w64];try exact rfl));first | with_reducible refine condOf_t ?_ | with_reducible refine condOf_f ?_) | (refine awp_region' tyW_ok ?_;intro K hK) | (refine awp_drawA ?_;intro K hK) | (with_reducible refine hK _ ?_;clear hK K) | (refine stq ?_;simp (disch:=(first | omega | (simp;omega))) only [go_sem,w64]) | refine and_side ?_ | fail)
    refine awp_if (p:=(i:Int)<(V.length:Nat)) (by simp (disch:=(first | omega | (simp;omega))) only [go_sem,w64]) ?_ ?_ <;> intro hc
    · have hi2:i<V.length:=by omega
      have g0:(V.map whQ).getD i (.bool false)=whQ (mx V i):=by simp [List.getD,mx,hi2]
      have hs:=bestTo_succ Cc sg hi2
      have hxl:(mx V i).length≤1048576:=by
        have:=hVl (mx V i) (by simp [mx,hi2])
        omega
      generalize mx V i=x at *
      rw [← hb] at hs
      repeat' (first | refine awp_seq ?_ | refine stp ?_ | refine blk_o (by decide) ?_ | (apply awp_condB;(focus (simp (disch:=(first | omega | (simp;omega))) only [go_sem,w64,hVm,g0];try exact rfl));first | with_reducible refine condOf_t ?_ | with_reducible refine condOf_f ?_) | (refine awp_region' tyW_ok ?_;intro K hK) | (refine awp_drawA ?_;intro K hK) | (with_reducible refine hK _ ?_;clear hK K) | (refine stq ?_;simp (disch:=(first | omega | (simp;omega))) only [go_sem,w64,hVm,g0]) | refine and_side ?_ | fail)
      (first | refine callA (implDotA Cc x (by omega) hxl) ?_ | refine callD (implDotA Cc x (by omega) hxl) ?_ | refine callE (implDotA Cc x (by omega) hxl) ?_ | refine callF (implDotA Cc x (by omega) hxl) ?_ ?_)
      cases hd:dotF Cc x with
      | none =>
        have hs2:(⟨pt,val,found⟩:BestS)=bestTo Cc V sg (i+1):=by rw [hs];unfold bestT;rw [hd]
        repeat' (first | refine awp_seq ?_ | refine stp ?_ | refine blk_o (by decide) ?_ | (apply awp_condB;(focus (simp (disch:=(first | omega | (simp;omega))) only [go_sem,w64,ansQ,ratDV];try exact rfl));first | with_reducible refine condOf_t ?_ | with_reducible refine condOf_f ?_) | (refine awp_region' tyW_ok ?_;intro K hK) | (refine awp_drawA ?_;intro K hK) | (with_reducible refine hK _ ?_;clear hK K) | (refine stq ?_;simp (disch:=(first | omega | (simp;omega))) only [go_sem,w64,ansQ,ratDV]) | refine and_side ?_ | fail)
        refine ⟨V.length - (i+1),_,by omega,?_,i+1,_,rfl,by omega,hs2,rfl⟩
        exact sleA
      | some v =>
        cases found with
        | false =>
          have hs2:(⟨x,v,true⟩:BestS)=bestTo Cc V sg (i+1):=by rw [hs];unfold bestT;rw [hd];simp
          repeat' (first | refine awp_seq ?_ | refine stp ?_ | refine blk_o (by decide) ?_ | (apply awp_condB;(focus (simp (disch:=(first | omega | (simp;omega))) only [go_sem,w64,ansQ,ratDV];try exact rfl));first | with_reducible refine condOf_t ?_ | with_reducible refine condOf_f ?_) | (refine awp_region' tyW_ok ?_;intro K hK) | (refine awp_drawA ?_;intro K hK) | (with_reducible refine hK _ ?_;clear hK K) | (refine stq ?_;simp (disch:=(first | omega | (simp;omega))) only [go_sem,w64,ansQ,ratDV]) | refine and_side ?_ | fail)
          refine ⟨V.length - (i+1),_,by omega,?_,i+1,_,rfl,by omega,hs2,rfl⟩
          exact sleA
        | true =>
          have hcm:=implCmpA v val
          have w1:=sg_w hsg (cmpQ_rg v val)
          have hs3:bestTo Cc V sg (i+1)=if sg*cmpQ v val<0 then ⟨x,v,true⟩ else ⟨pt,val,true⟩:=by rw [hs];unfold bestT;rw [hd];simp
          generalize cmpQ v val=c at *
          repeat' (first | refine awp_seq ?_ | refine stp ?_ | refine blk_o (by decide) ?_ | (apply awp_condB;(focus (simp (disch:=(first | omega | (simp;omega))) only [go_sem,w64,ansQ,ratDV];try exact rfl));first | with_reducible refine condOf_t ?_ | with_reducible refine condOf_f ?_) | (refine awp_region' tyW_ok ?_;intro K hK) | (refine awp_drawA ?_;intro K hK) | (with_reducible refine hK _ ?_;clear hK K) | (refine stq ?_;simp (disch:=(first | omega | (simp;omega))) only [go_sem,w64,ansQ,ratDV]) | refine and_side ?_ | fail)
          (first | refine callA (hcm) ?_ | refine callD (hcm) ?_ | refine callE (hcm) ?_ | refine callF (hcm) ?_ ?_)
          by_cases hcs:sg*c<0
          · rw [if_pos hcs] at hs3
            have z1:decide (sg*c<0)=true:=decide_eq_true hcs
            repeat' (first | refine awp_seq ?_ | refine stp ?_ | refine blk_o (by decide) ?_ | (apply awp_condB;(focus (simp (disch:=(first | omega | (simp;omega))) only [go_sem,w64,w1,z1];try exact rfl));first | with_reducible refine condOf_t ?_ | with_reducible refine condOf_f ?_) | (refine awp_region' tyW_ok ?_;intro K hK) | (refine awp_drawA ?_;intro K hK) | (with_reducible refine hK _ ?_;clear hK K) | (refine stq ?_;simp (disch:=(first | omega | (simp;omega))) only [go_sem,w64,w1,z1]) | refine and_side ?_ | fail)
            refine ⟨V.length - (i+1),_,by omega,?_,i+1,_,rfl,by omega,hs3.symm,rfl⟩
            exact sleA
          · rw [if_neg hcs] at hs3
            have z1:decide (sg*c<0)=false:=decide_eq_false hcs
            repeat' (first | refine awp_seq ?_ | refine stp ?_ | refine blk_o (by decide) ?_ | (apply awp_condB;(focus (simp (disch:=(first | omega | (simp;omega))) only [go_sem,w64,w1,z1];try exact rfl));first | with_reducible refine condOf_t ?_ | with_reducible refine condOf_f ?_) | (refine awp_region' tyW_ok ?_;intro K hK) | (refine awp_drawA ?_;intro K hK) | (with_reducible refine hK _ ?_;clear hK K) | (refine stq ?_;simp (disch:=(first | omega | (simp;omega))) only [go_sem,w64,w1,z1]) | refine and_side ?_ | fail)
            refine ⟨V.length - (i+1),_,by omega,?_,i+1,_,rfl,by omega,hs3.symm,rfl⟩
            exact sleA
    · obtain rfl:i=V.length:=by omega
      rw [bestTo_all] at hb
      rw [← hb]
      repeat' (first | refine awp_seq ?_ | refine stp ?_ | refine blk_o (by decide) ?_ | (apply awp_condB;(focus (simp (disch:=(first | omega | (simp;omega))) only [go_sem,w64];try exact rfl));first | with_reducible refine condOf_t ?_ | with_reducible refine condOf_f ?_) | (refine awp_region' tyT_ok ?_;intro K hK) | (with_reducible refine hK _ ?_;clear hK K) | (refine stq ?_;simp (disch:=(first | omega | (simp;omega))) only [go_sem,w64]) | refine and_side ?_ | fail)
      refine awp_drawQ [5] tyT_ok (by kernel_rfl) (by kernel_rfl) ?_;intro K hK
      repeat' (first | refine awp_seq ?_ | refine stp ?_ | refine blk_o (by decide) ?_ | (apply awp_condB;(focus (simp (disch:=(first | omega | (simp;omega))) only [go_sem,w64];try exact rfl));first | with_reducible refine condOf_t ?_ | with_reducible refine condOf_f ?_) | (refine awp_region' tyW_ok ?_;intro K hK) | (refine awp_drawA ?_;intro K hK) | (with_reducible refine hK _ ?_;clear hK K) | (refine stq ?_;simp (disch:=(first | omega | (simp;omega))) only [go_sem,w64]) | refine and_side ?_ | fail)
      (refine endA (r:=.tup [.d (whQ pt),.d (.agg [.int val.num,.int val.den]),.d (.bool found)]) ?_)
      exact ⟨rfl,rfl⟩
set_option maxHeartbeats 4000000 in
theorem specBestA (A:List (List RatD)) (B Cc:List RatD) (sg:Int) (hlp:lpV A B Cc=true) (hsg:sg=1∨sg = -1):AFn 32 [.d (lpD A B Cc),.d (.int sg)] [] (fun r os=>r=ansBS (bestF Cc (vertF A B Cc sg) sg)∧os=[]):=by
  obtain ⟨_,hVl,hVn,hC5⟩:=vert_law (sg:=sg) hlp
  refine afn_of (rv:=[.tmp 4,.cell 5 39,.tmp 6]) tyT_ok Try.func32 rfl (by decide +kernel) Try.ntmps32 rfl (by simp) ?_
  repeat' (first | refine awp_seq ?_ | refine stp ?_ | refine blk_o (by decide) ?_ | (apply awp_condB;(focus (simp (disch:=(first | omega | (simp;omega))) only [go_sem,w64,lpD];try exact rfl));first | with_reducible refine condOf_t ?_ | with_reducible refine condOf_f ?_) | (refine awp_region' tyT_ok ?_;intro K hK) | (refine awp_drawA ?_;intro K hK) | (with_reducible refine hK _ ?_;clear hK K) | (refine stq ?_;simp (disch:=(first | omega | (simp;omega))) only [go_sem,w64,lpD]) | refine and_side ?_ | fail)
  (first | refine callA (specPointsA A B Cc sg hlp hsg) ?_ | refine callD (specPointsA A B Cc sg hlp hsg) ?_ | refine callE (specPointsA A B Cc sg hlp hsg) ?_ | refine callF (specPointsA A B Cc sg hlp hsg) ?_ ?_)
  generalize vertF A B Cc sg=V at *
  have hVm:(V.map ratsD).length=V.length:=List.length_map ..
  repeat' (first | refine awp_seq ?_ | refine stp ?_ | refine blk_o (by decide) ?_ | (apply awp_condB;(focus (simp (disch:=(first | omega | (simp;omega))) only [go_sem,w64,lpD,hVm];try exact rfl));first | with_reducible refine condOf_t ?_ | with_reducible refine condOf_f ?_) | (refine awp_region' tyT_ok ?_;intro K hK) | (refine awp_drawA ?_;intro K hK) | (with_reducible refine hK _ ?_;clear hK K) | (refine stq ?_;simp (disch:=(first | omega | (simp;omega))) only [go_sem,w64,lpD,hVm]) | refine and_side ?_ | fail)
  refine awp_loopw (fun mm s=>∃ i b,mm=V.length - i∧i≤V.length∧b=bestTo Cc V sg i∧s=mkS [(1,.d (.int sg)),(2,.ptr 2 0),(5,.ptr 5 0),(7,.d (ratsD b.pt)),(8,.ptr 8 0),(9,.d (.sl 1 (V.map ratsD))),(10,.d (.bool b.found)),(11,.d (.int (i:Nat)))] [(2,[.d (matD A),.d (ratsD B),.d (ratsD Cc)]),(5,[.d (.int 0),.d (.int 0)]),(8,[.d (.int b.val.num),.d (.int b.val.den)])]) ?_ ?_
  · refine ⟨_,_,?_,0,best0,rfl,Nat.zero_le _,rfl,rfl⟩
    (refine sle_mk ?_ ?_ <;> simp (disch:=(first | omega | (simp;omega))) only [go_sem,w64,hVm,best0,List.map_nil] <;> exact leafs)
  · rintro mm s ⟨i,b,rfl,hi,hb,rfl⟩
    obtain ⟨pt,val,found⟩:=b
    repeat' (first | refine awp_seq ?_ | refine stp ?_ | refine blk_o (by decide) ?_ | (apply awp_condB;(focus (simp (disch:=(first | omega | (simp;omega))) only [go_sem,w64,hVm];try exact rfl));first | with_reducible refine condOf_t ?_ | with_reducible refine condOf_f ?_) | (refine awp_region' tyT_ok ?_;intro K hK) | (refine awp_drawA ?_;intro K hK) | (with_reducible refine hK _ ?_;clear hK K) | (refine stq ?_;simp (disch:=(first | omega | (simp;omega))) only [go_sem,w64,hVm]) | refine and_side ?_ | fail)
    refine awp_if (p:=(i:Int)<(V.length:Nat)) (by simp (disch:=(first | omega | (simp;omega))) only [go_sem,w64,hVm]) ?_ ?_ <;> intro hc
    · have hi2:i<V.length:=by omega
      have g0:(V.map ratsD).getD i (.bool false)=ratsD (mx V i):=by simp [List.getD,mx,hi2]
      have hs:=bestTo_succ Cc sg hi2
      have hxl:(mx V i).length≤1048576:=by
        have:=hVl (mx V i) (by simp [mx,hi2])
        omega
      generalize mx V i=x at *
      rw [← hb] at hs
      repeat' (first | refine awp_seq ?_ | refine stp ?_ | refine blk_o (by decide) ?_ | (apply awp_condB;(focus (simp (disch:=(first | omega | (simp;omega))) only [go_sem,w64,hVm,g0];try exact rfl));first | with_reducible refine condOf_t ?_ | with_reducible refine condOf_f ?_) | (refine awp_region' tyT_ok ?_;intro K hK) | (refine awp_drawA ?_;intro K hK) | (with_reducible refine hK _ ?_;clear hK K) | (refine stq ?_;simp (disch:=(first | omega | (simp;omega))) only [go_sem,w64,hVm,g0]) | refine and_side ?_ | fail)
      (first | refine callA (specDotA Cc x (by omega) hxl) ?_ | refine callD (specDotA Cc x (by omega) hxl) ?_ | refine callE (specDotA Cc x (by omega) hxl) ?_ | refine callF (specDotA Cc x (by omega) hxl) ?_ ?_)
      cases hd:dotF Cc x with
      | none =>
        have hs2:(⟨pt,val,found⟩:BestS)=bestTo Cc V sg (i+1):=by rw [hs];unfold bestT;rw [hd]
        repeat' (first | refine awp_seq ?_ | refine stp ?_ | refine blk_o (by decide) ?_ | (apply awp_condB;(focus (simp (disch:=(first | omega | (simp;omega))) only [go_sem,w64,ansQ,ratDV];try exact rfl));first | with_reducible refine condOf_t ?_ | with_reducible refine condOf_f ?_) | (refine awp_region' tyT_ok ?_;intro K hK) | (refine awp_drawA ?_;intro K hK) | (with_reducible refine hK _ ?_;clear hK K) | (refine stq ?_;simp (disch:=(first | omega | (simp;omega))) only [go_sem,w64,ansQ,ratDV]) | refine and_side ?_ | fail)
        refine ⟨V.length - (i+1),_,by omega,?_,i+1,_,rfl,by omega,hs2,rfl⟩
        exact sleA
      | some v =>
        cases found with
        | false =>
          have hs2:(⟨x,v,true⟩:BestS)=bestTo Cc V sg (i+1):=by rw [hs];unfold bestT;rw [hd];simp
          repeat' (first | refine awp_seq ?_ | refine stp ?_ | refine blk_o (by decide) ?_ | (apply awp_condB;(focus (simp (disch:=(first | omega | (simp;omega))) only [go_sem,w64,ansQ,ratDV,hVm,g0];try exact rfl));first | with_reducible refine condOf_t ?_ | with_reducible refine condOf_f ?_) | (refine awp_region' tyT_ok ?_;intro K hK) | (refine awp_drawA ?_;intro K hK) | (with_reducible refine hK _ ?_;clear hK K) | (refine stq ?_;simp (disch:=(first | omega | (simp;omega))) only [go_sem,w64,ansQ,ratDV,hVm,g0]) | refine and_side ?_ | fail)
          refine ⟨V.length - (i+1),_,by omega,?_,i+1,_,rfl,by omega,hs2,rfl⟩
          exact sleA
        | true =>
          have hcm:=specCmpA v val
          have w1:=sg_w hsg (cmpQ_rg v val)
          rw [Int.mul_comm] at w1
          have hs3:bestTo Cc V sg (i+1)=if sg*cmpQ v val<0 then ⟨x,v,true⟩ else ⟨pt,val,true⟩:=by rw [hs];unfold bestT;rw [hd];simp
          rw [Int.mul_comm] at hs3
          generalize cmpQ v val=c at *
          repeat' (first | refine awp_seq ?_ | refine stp ?_ | refine blk_o (by decide) ?_ | (apply awp_condB;(focus (simp (disch:=(first | omega | (simp;omega))) only [go_sem,w64,ansQ,ratDV];try exact rfl));first | with_reducible refine condOf_t ?_ | with_reducible refine condOf_f ?_) | (refine awp_region' tyT_ok ?_;intro K hK) | (refine awp_drawA ?_;intro K hK) | (with_reducible refine hK _ ?_;clear hK K) | (refine stq ?_;simp (disch:=(first | omega | (simp;omega))) only [go_sem,w64,ansQ,ratDV]) | refine and_side ?_ | fail)
          (first | refine callA (hcm) ?_ | refine callD (hcm) ?_ | refine callE (hcm) ?_ | refine callF (hcm) ?_ ?_)
          by_cases hcs:c*sg<0
          · rw [if_pos hcs] at hs3
            have z1:decide (c*sg<0)=true:=decide_eq_true hcs
            repeat' (first | refine awp_seq ?_ | refine stp ?_ | refine blk_o (by decide) ?_ | (apply awp_condB;(focus (simp (disch:=(first | omega | (simp;omega))) only [go_sem,w64,w1,z1,hVm,g0];try exact rfl));first | with_reducible refine condOf_t ?_ | with_reducible refine condOf_f ?_) | (refine awp_region' tyT_ok ?_;intro K hK) | (refine awp_drawA ?_;intro K hK) | (with_reducible refine hK _ ?_;clear hK K) | (refine stq ?_;simp (disch:=(first | omega | (simp;omega))) only [go_sem,w64,w1,z1,hVm,g0]) | refine and_side ?_ | fail)
            refine ⟨V.length - (i+1),_,by omega,?_,i+1,_,rfl,by omega,hs3.symm,rfl⟩
            exact sleA
          · rw [if_neg hcs] at hs3
            have z1:decide (c*sg<0)=false:=decide_eq_false hcs
            repeat' (first | refine awp_seq ?_ | refine stp ?_ | refine blk_o (by decide) ?_ | (apply awp_condB;(focus (simp (disch:=(first | omega | (simp;omega))) only [go_sem,w64,w1,z1];try exact rfl));first | with_reducible refine condOf_t ?_ | with_reducible refine condOf_f ?_) | (refine awp_region' tyT_ok ?_;intro K hK) | (refine awp_drawA ?_;intro K hK) | (with_reducible refine hK _ ?_;clear hK K) | (refine stq ?_;simp (disch:=(first | omega | (simp;omega))) only [go_sem,w64,w1,z1]) | refine and_side ?_ | fail)
            refine ⟨V.length - (i+1),_,by omega,?_,i+1,_,rfl,by omega,hs3.symm,rfl⟩
            exact sleA
    · obtain rfl:i=V.length:=by omega
      rw [bestTo_all] at hb
      rw [← hb]
      repeat' (first | refine awp_seq ?_ | refine stp ?_ | refine blk_o (by decide) ?_ | (apply awp_condB;(focus (simp (disch:=(first | omega | (simp;omega))) only [go_sem,w64,hVm];try exact rfl));first | with_reducible refine condOf_t ?_ | with_reducible refine condOf_f ?_) | (refine awp_region' tyT_ok ?_;intro K hK) | (with_reducible refine hK _ ?_;clear hK K) | (refine stq ?_;simp (disch:=(first | omega | (simp;omega))) only [go_sem,w64,hVm]) | refine and_side ?_ | fail)
      refine awp_drawQ [5] tyT_ok (by kernel_rfl) (by kernel_rfl) ?_;intro K hK
      repeat' (first | refine awp_seq ?_ | refine stp ?_ | refine blk_o (by decide) ?_ | (apply awp_condB;(focus (simp (disch:=(first | omega | (simp;omega))) only [go_sem,w64];try exact rfl));first | with_reducible refine condOf_t ?_ | with_reducible refine condOf_f ?_) | (refine awp_region' tyT_ok ?_;intro K hK) | (refine awp_drawA ?_;intro K hK) | (with_reducible refine hK _ ?_;clear hK K) | (refine stq ?_;simp (disch:=(first | omega | (simp;omega))) only [go_sem,w64]) | refine and_side ?_ | fail)
      (refine endA (r:=.tup [.d (ratsD pt),.d (.agg [.int val.num,.int val.den]),.d (.bool found)]) ?_)
      exact ⟨rfl,rfl⟩
def mnF (A:List (List RatD)) (B Cc:List RatD):BestS:=if lpV A B Cc=true∧posL Cc=true then bestF Cc (vertF A B Cc 1) 1 else best0
theorem bestF_pt (C:List RatD) (V:List (List RatD)) (sg:Int) (m:Nat) (h:∀ y∈V,y.length≤m):(bestF C V sg).pt.length≤m :=
  foldl_inv (fun b:BestS=>b.pt.length≤m) _ _ _ (Nat.zero_le _) fun b x hx hb=>by
    unfold bestT
    split
    · exact hb
    · split
      · exact h x hx
      · exact hb
theorem mn_sz (A:List (List RatD)) (B Cc:List RatD):(mnF A B Cc).pt.length≤1048576:=by
  unfold mnF
  split
  · rename_i h
    obtain ⟨_,h2,_,h4⟩:=vert_law (sg:=1) h.1
    exact bestF_pt _ _ _ _ fun y hy=>by rw [h2 y hy];omega
  · exact Nat.zero_le _
theorem plusA (l:List RatD) (hl:l.length≤1048576):AFn 31 [.d (ratsD l)] [] (fun r os=>r=.d (.bool (posL l))∧os=[]):=by
  refine afn_of (rv:=[.tmp 2]) tyT_ok Try.func31 rfl (by decide +kernel) Try.ntmps31 rfl (by simp) ?_
  repeat' (first | refine awp_seq ?_ | refine stp ?_ | refine blk_o (by decide) ?_ | (apply awp_condB;(focus (simp (disch:=(first | omega | (simp;omega))) only [go_sem,w64,ratsD];try exact rfl));first | with_reducible refine condOf_t ?_ | with_reducible refine condOf_f ?_) | (refine awp_region' tyT_ok ?_;intro K hK) | (refine awp_drawA ?_;intro K hK) | (with_reducible refine hK _ ?_;clear hK K) | (refine stq ?_;simp (disch:=(first | omega | (simp;omega))) only [go_sem,w64,ratsD]) | refine and_side ?_ | fail)
  refine awp_loopw (fun mm s=>∃ i,mm=l.length - i∧i≤l.length∧(∀ j,j<i→0≤(qx l j).num)∧s=mkS [(0,.d (ratsD l)),(3,.d (.int (i:Nat)))] []) ?_ ?_
  · refine ⟨_,_,?_,0,rfl,Nat.zero_le _,fun j h=>absurd h (Nat.not_lt_zero _),rfl⟩
    (refine sle_mk ?_ ?_ <;> simp (disch:=(first | omega | (simp;omega))) only [go_sem,w64,ratsD] <;> exact leafs)
  · rintro mm s ⟨i,rfl,hi,hd,rfl⟩
    repeat' (first | refine awp_seq ?_ | refine stp ?_ | refine blk_o (by decide) ?_ | (apply awp_condB;(focus (simp (disch:=(first | omega | (simp;omega))) only [go_sem,w64,ratsD];try exact rfl));first | with_reducible refine condOf_t ?_ | with_reducible refine condOf_f ?_) | (refine awp_region' tyT_ok ?_;intro K hK) | (refine awp_drawA ?_;intro K hK) | (with_reducible refine hK _ ?_;clear hK K) | (refine stq ?_;simp (disch:=(first | omega | (simp;omega))) only [go_sem,w64,ratsD]) | refine and_side ?_ | fail)
    refine awp_if (p:=(i:Int)<(l.length:Nat)) (by simp (disch:=(first | omega | (simp;omega))) only [go_sem,w64,ratsD]) ?_ ?_ <;> intro hc
    · have hi2:i<l.length:=by omega
      have g0:(l.map ratDV).getD i (.bool false)=ratDV (qx l i):=getDq hi2
      repeat' (first | refine awp_seq ?_ | refine stp ?_ | refine blk_o (by decide) ?_ | (apply awp_condB;(focus (simp (disch:=(first | omega | (simp;omega))) only [go_sem,w64,ratsD,g0,ratDV];try exact rfl));first | with_reducible refine condOf_t ?_ | with_reducible refine condOf_f ?_) | (refine awp_region' tyT_ok ?_;intro K hK) | (refine awp_drawA ?_;intro K hK) | (with_reducible refine hK _ ?_;clear hK K) | (refine stq ?_;simp (disch:=(first | omega | (simp;omega))) only [go_sem,w64,ratsD,g0,ratDV]) | refine and_side ?_ | fail)
      refine awp_if (p:=(qx l i).num<0) (by simp (disch:=(first | omega | (simp;omega))) only [go_sem,w64]) ?_ ?_ <;> intro hc2
      · repeat' (first | refine awp_seq ?_ | refine stp ?_ | refine blk_o (by decide) ?_ | (apply awp_condB;(focus (simp (disch:=(first | omega | (simp;omega))) only [go_sem,w64];try exact rfl));first | with_reducible refine condOf_t ?_ | with_reducible refine condOf_f ?_) | (refine awp_region' tyT_ok ?_;intro K hK) | (refine awp_drawA ?_;intro K hK) | (with_reducible refine hK _ ?_;clear hK K) | (refine stq ?_;simp (disch:=(first | omega | (simp;omega))) only [go_sem,w64]) | refine and_side ?_ | fail)
        (refine endA (r:=.d (.bool false)) ?_)
        exact ⟨by rw [posL_no hi2 (by omega)],rfl⟩
      · repeat' (first | refine awp_seq ?_ | refine stp ?_ | refine blk_o (by decide) ?_ | (apply awp_condB;(focus (simp (disch:=(first | omega | (simp;omega))) only [go_sem,w64];try exact rfl));first | with_reducible refine condOf_t ?_ | with_reducible refine condOf_f ?_) | (refine awp_region' tyT_ok ?_;intro K hK) | (refine awp_drawA ?_;intro K hK) | (with_reducible refine hK _ ?_;clear hK K) | (refine stq ?_;simp (disch:=(first | omega | (simp;omega))) only [go_sem,w64]) | refine and_side ?_ | fail)
        refine ⟨l.length - (i+1),_,by omega,?_,i+1,rfl,by omega,fun j hj=>?_,rfl⟩
        · (refine sle_mk ?_ ?_ <;> simp (disch:=(first | omega | (simp;omega))) only [go_sem,w64,ratsD] <;> exact leafs)
        · by_cases e:j=i
          · subst e;omega
          · exact hd j (by omega)
    · obtain rfl:i=l.length:=by omega
      repeat' (first | refine awp_seq ?_ | refine stp ?_ | refine blk_o (by decide) ?_ | (apply awp_condB;(focus (simp (disch:=(first | omega | (simp;omega))) only [go_sem,w64];try exact rfl));first | with_reducible refine condOf_t ?_ | with_reducible refine condOf_f ?_) | (refine awp_region' tyT_ok ?_;intro K hK) | (refine awp_drawA ?_;intro K hK) | (with_reducible refine hK _ ?_;clear hK K) | (refine stq ?_;simp (disch:=(first | omega | (simp;omega))) only [go_sem,w64]) | refine and_side ?_ | fail)
      (refine endA (r:=.d (.bool true)) ?_)
      exact ⟨by rw [posL_yes hd],rfl⟩
section
variable (A:List (List RatD)) (B Cc:List RatD) (hA:A.length≤1048576) (hr:∀ i,i<A.length→(mx A i).length≤1048576) (hB:B.length≤1048576) (hC:Cc.length≤1048576)
include hA hr hB hC
set_option maxHeartbeats 2000000 in
theorem implMinA:AFn 16 [.d (lpD A B Cc)] [] (fun r os=>r=ansB (mnF A B Cc)∧os=[]):=by
  refine afn_of (rv:=[.tmp 2,.cell 3 39,.tmp 4]) tyW_ok Try.func16 rfl (by decide +kernel) Try.ntmps16 rfl (by simp) ?_
  repeat' (first | refine awp_seq ?_ | refine stp ?_ | refine blk_o (by decide) ?_ | (apply awp_condB;(focus (simp (disch:=(first | omega | (simp;omega))) only [go_sem,w64,lpD];try exact rfl));first | with_reducible refine condOf_t ?_ | with_reducible refine condOf_f ?_) | (refine awp_region' tyW_ok ?_;intro K hK) | (refine awp_drawA ?_;intro K hK) | (with_reducible refine hK _ ?_;clear hK K) | (refine stq ?_;simp (disch:=(first | omega | (simp;omega))) only [go_sem,w64,lpD]) | refine and_side ?_ | fail)
  (first | refine callA (implLpA A B Cc hA hr hB hC) ?_ | refine callD (implLpA A B Cc hA hr hB hC) ?_ | refine callE (implLpA A B Cc hA hr hB hC) ?_ | refine callF (implLpA A B Cc hA hr hB hC) ?_ ?_)
  cases h:lpV A B Cc with
  | false =>
    repeat' (first | refine awp_seq ?_ | refine stp ?_ | refine blk_o (by decide) ?_ | (apply awp_condB;(focus (simp (disch:=(first | omega | (simp;omega))) only [go_sem,w64,h,lpD];try exact rfl));first | with_reducible refine condOf_t ?_ | with_reducible refine condOf_f ?_) | (refine awp_region' tyW_ok ?_;intro K hK) | (refine awp_drawA ?_;intro K hK) | (with_reducible refine hK _ ?_;clear hK K) | (refine stq ?_;simp (disch:=(first | omega | (simp;omega))) only [go_sem,w64,h,lpD]) | refine and_side ?_ | fail)
    (refine endA (r:=.tup [.d (.wh 2 []),.d (.agg [.int 0,.int 0]),.d (.bool false)]) ?_)
    exact ⟨by unfold mnF;rw [if_neg (by rw [h];simp)];rfl,rfl⟩
  | true =>
    repeat' (first | refine awp_seq ?_ | refine stp ?_ | refine blk_o (by decide) ?_ | (apply awp_condB;(focus (simp (disch:=(first | omega | (simp;omega))) only [go_sem,w64,h,lpD,ratsD];try exact rfl));first | with_reducible refine condOf_t ?_ | with_reducible refine condOf_f ?_) | (refine awp_region' tyW_ok ?_;intro K hK) | (refine awp_drawA ?_;intro K hK) | (with_reducible refine hK _ ?_;clear hK K) | (refine stq ?_;simp (disch:=(first | omega | (simp;omega))) only [go_sem,w64,h,lpD,ratsD]) | refine and_side ?_ | fail)
    refine awp_loopw (fun mm s=>∃ i,mm=Cc.length - i∧i≤Cc.length∧(∀ j,j<i→0≤(qx Cc j).num)∧s=mkS [(1,.ptr 1 0),(3,.ptr 3 0),(12,.d (ratsD Cc)),(13,.d (.int (Cc.length:Nat))),(14,.d (.int (i:Nat)))] [(1,[.d (matD A),.d (ratsD B),.d (ratsD Cc)]),(3,[.d (.int 0),.d (.int 0)])]) ?_ ?_
    · refine ⟨_,_,?_,0,rfl,Nat.zero_le _,fun j h=>absurd h (Nat.not_lt_zero _),rfl⟩
      (refine sle_mk ?_ ?_ <;> simp (disch:=(first | omega | (simp;omega))) only [go_sem,w64,ratsD,matD] <;> exact leafs)
    · rintro mm s ⟨i,rfl,hi,hd,rfl⟩
      repeat' (first | refine awp_seq ?_ | refine stp ?_ | refine blk_o (by decide) ?_ | (apply awp_condB;(focus (simp (disch:=(first | omega | (simp;omega))) only [go_sem,w64,ratsD];try exact rfl));first | with_reducible refine condOf_t ?_ | with_reducible refine condOf_f ?_) | (refine awp_region' tyW_ok ?_;intro K hK) | (refine awp_drawA ?_;intro K hK) | (with_reducible refine hK _ ?_;clear hK K) | (refine stq ?_;simp (disch:=(first | omega | (simp;omega))) only [go_sem,w64,ratsD]) | refine and_side ?_ | fail)
      refine awp_if (p:=(i:Int)<(Cc.length:Nat)) (by simp (disch:=(first | omega | (simp;omega))) only [go_sem,w64,ratsD]) ?_ ?_ <;> intro hc
      · have hi2:i<Cc.length:=by omega
        have g0:(Cc.map ratDV).getD i (.bool false)=ratDV (qx Cc i):=getDq hi2
        repeat' (first | refine awp_seq ?_ | refine stp ?_ | refine blk_o (by decide) ?_ | (apply awp_condB;(focus (simp (disch:=(first | omega | (simp;omega))) only [go_sem,w64,ratsD,g0,ratDV];try exact rfl));first | with_reducible refine condOf_t ?_ | with_reducible refine condOf_f ?_) | (refine awp_region' tyW_ok ?_;intro K hK) | (refine awp_drawA ?_;intro K hK) | (with_reducible refine hK _ ?_;clear hK K) | (refine stq ?_;simp (disch:=(first | omega | (simp;omega))) only [go_sem,w64,ratsD,g0,ratDV]) | refine and_side ?_ | fail)
        refine awp_if (p:=(qx Cc i).num<0) (by simp (disch:=(first | omega | (simp;omega))) only [go_sem,w64]) ?_ ?_ <;> intro hc2
        · repeat' (first | refine awp_seq ?_ | refine stp ?_ | refine blk_o (by decide) ?_ | (apply awp_condB;(focus (simp (disch:=(first | omega | (simp;omega))) only [go_sem,w64];try exact rfl));first | with_reducible refine condOf_t ?_ | with_reducible refine condOf_f ?_) | (refine awp_region' tyW_ok ?_;intro K hK) | (refine awp_drawA ?_;intro K hK) | (with_reducible refine hK _ ?_;clear hK K) | (refine stq ?_;simp (disch:=(first | omega | (simp;omega))) only [go_sem,w64]) | refine and_side ?_ | fail)
          (refine endA (r:=.tup [.d (.wh 2 []),.d (.agg [.int 0,.int 0]),.d (.bool false)]) ?_)
          exact ⟨by unfold mnF;rw [if_neg (by rw [posL_no hi2 (by omega)];simp)];rfl,rfl⟩
        · repeat' (first | refine awp_seq ?_ | refine stp ?_ | refine blk_o (by decide) ?_ | (apply awp_condB;(focus (simp (disch:=(first | omega | (simp;omega))) only [go_sem,w64];try exact rfl));first | with_reducible refine condOf_t ?_ | with_reducible refine condOf_f ?_) | (refine awp_region' tyW_ok ?_;intro K hK) | (refine awp_drawA ?_;intro K hK) | (with_reducible refine hK _ ?_;clear hK K) | (refine stq ?_;simp (disch:=(first | omega | (simp;omega))) only [go_sem,w64]) | refine and_side ?_ | fail)
          refine ⟨Cc.length - (i+1),_,by omega,?_,i+1,rfl,by omega,fun j hj=>?_,rfl⟩
          · (refine sle_mk ?_ ?_ <;> simp (disch:=(first | omega | (simp;omega))) only [go_sem,w64,ratsD,matD] <;> exact leafs)
          · by_cases e:j=i
            · subst e;omega
            · exact hd j (by omega)
      · obtain rfl:i=Cc.length:=by omega
        have hm:mnF A B Cc=bestF Cc (vertF A B Cc 1) 1:=by unfold mnF;rw [if_pos ⟨h,posL_yes hd⟩]
        have hb:=implBestA A B Cc 1 h (.inl rfl)
        rw [← hm] at hb
        generalize mnF A B Cc=F at *
        repeat' (first | refine awp_seq ?_ | refine stp ?_ | refine blk_o (by decide) ?_ | (apply awp_condB;(focus (simp (disch:=(first | omega | (simp;omega))) only [go_sem,w64,ratsD,matD];try exact rfl));first | with_reducible refine condOf_t ?_ | with_reducible refine condOf_f ?_) | (refine awp_region' tyW_ok ?_;intro K hK) | (refine awp_drawA ?_;intro K hK) | (with_reducible refine hK _ ?_;clear hK K) | (refine stq ?_;simp (disch:=(first | omega | (simp;omega))) only [go_sem,w64,ratsD,matD]) | refine and_side ?_ | fail)
        (first | refine callA (hb) ?_ | refine callD (hb) ?_ | refine callE (hb) ?_ | refine callF (hb) ?_ ?_)
        repeat' (first | refine awp_seq ?_ | refine stp ?_ | refine blk_o (by decide) ?_ | (apply awp_condB;(focus (simp (disch:=(first | omega | (simp;omega))) only [go_sem,w64,ansB,ratDV];try exact rfl));first | with_reducible refine condOf_t ?_ | with_reducible refine condOf_f ?_) | (refine awp_region' tyW_ok ?_;intro K hK) | (refine awp_drawA ?_;intro K hK) | (with_reducible refine hK _ ?_;clear hK K) | (refine stq ?_;simp (disch:=(first | omega | (simp;omega))) only [go_sem,w64,ansB,ratDV]) | refine and_side ?_ | fail)
        (refine endA (r:=.tup [.d (whQ F.pt),.d (.agg [.int F.val.num,.int F.val.den]),.d (.bool F.found)]) ?_)
        exact ⟨rfl,rfl⟩
omit hr in
set_option maxHeartbeats 2000000 in
theorem specMinA:AFn 15 [.d (lpD A B Cc)] [] (fun r os=>r=ansBS (mnF A B Cc)∧os=[]):=by
  refine afn_of (rv:=[.tmp 2,.cell 3 39,.tmp 4]) tyT_ok Try.func15 rfl (by decide +kernel) Try.ntmps15 rfl (by simp) ?_
  repeat' (first | refine awp_seq ?_ | refine stp ?_ | refine blk_o (by decide) ?_ | (apply awp_condB;(focus (simp (disch:=(first | omega | (simp;omega))) only [go_sem,w64,lpD];try exact rfl));first | with_reducible refine condOf_t ?_ | with_reducible refine condOf_f ?_) | (refine awp_region' tyT_ok ?_;intro K hK) | (refine awp_drawA ?_;intro K hK) | (with_reducible refine hK _ ?_;clear hK K) | (refine stq ?_;simp (disch:=(first | omega | (simp;omega))) only [go_sem,w64,lpD]) | refine and_side ?_ | fail)
  (first | refine callA (specLpA A B Cc hA hB hC) ?_ | refine callD (specLpA A B Cc hA hB hC) ?_ | refine callE (specLpA A B Cc hA hB hC) ?_ | refine callF (specLpA A B Cc hA hB hC) ?_ ?_)
  cases h:lpV A B Cc with
  | false =>
    repeat' (first | refine awp_seq ?_ | refine stp ?_ | refine blk_o (by decide) ?_ | (apply awp_condB;(focus (simp (disch:=(first | omega | (simp;omega))) only [go_sem,w64,h,lpD];try exact rfl));first | with_reducible refine condOf_t ?_ | with_reducible refine condOf_f ?_) | (refine awp_region' tyT_ok ?_;intro K hK) | (refine awp_drawA ?_;intro K hK) | (with_reducible refine hK _ ?_;clear hK K) | (refine stq ?_;simp (disch:=(first | omega | (simp;omega))) only [go_sem,w64,h,lpD]) | refine and_side ?_ | fail)
    (refine endA (r:=.tup [.d (.sl 2 []),.d (.agg [.int 0,.int 0]),.d (.bool false)]) ?_)
    exact ⟨by unfold mnF;rw [if_neg (by rw [h];simp)];rfl,rfl⟩
  | true =>
    repeat' (first | refine awp_seq ?_ | refine stp ?_ | refine blk_o (by decide) ?_ | (apply awp_condB;(focus (simp (disch:=(first | omega | (simp;omega))) only [go_sem,w64,h,lpD,ratsD];try exact rfl));first | with_reducible refine condOf_t ?_ | with_reducible refine condOf_f ?_) | (refine awp_region' tyT_ok ?_;intro K hK) | (refine awp_drawA ?_;intro K hK) | (with_reducible refine hK _ ?_;clear hK K) | (refine stq ?_;simp (disch:=(first | omega | (simp;omega))) only [go_sem,w64,h,lpD,ratsD]) | refine and_side ?_ | fail)
    (first | refine callA (plusA Cc hC) ?_ | refine callD (plusA Cc hC) ?_ | refine callE (plusA Cc hC) ?_ | refine callF (plusA Cc hC) ?_ ?_)
    cases h2:posL Cc with
    | false =>
      repeat' (first | refine awp_seq ?_ | refine stp ?_ | refine blk_o (by decide) ?_ | (apply awp_condB;(focus (simp (disch:=(first | omega | (simp;omega))) only [go_sem,w64];try exact rfl));first | with_reducible refine condOf_t ?_ | with_reducible refine condOf_f ?_) | (refine awp_region' tyT_ok ?_;intro K hK) | (refine awp_drawA ?_;intro K hK) | (with_reducible refine hK _ ?_;clear hK K) | (refine stq ?_;simp (disch:=(first | omega | (simp;omega))) only [go_sem,w64]) | refine and_side ?_ | fail)
      (refine endA (r:=.tup [.d (.sl 2 []),.d (.agg [.int 0,.int 0]),.d (.bool false)]) ?_)
      exact ⟨by unfold mnF;rw [if_neg (by rw [h2];simp)];rfl,rfl⟩
    | true =>
      have hm:mnF A B Cc=bestF Cc (vertF A B Cc 1) 1:=by unfold mnF;rw [if_pos ⟨h,h2⟩]
      have hb:=specBestA A B Cc 1 h (.inl rfl)
      rw [← hm] at hb
      generalize mnF A B Cc=F at *
      repeat' (first | refine awp_seq ?_ | refine stp ?_ | refine blk_o (by decide) ?_ | (apply awp_condB;(focus (simp (disch:=(first | omega | (simp;omega))) only [go_sem,w64,ratsD,matD];try exact rfl));first | with_reducible refine condOf_t ?_ | with_reducible refine condOf_f ?_) | (refine awp_region' tyT_ok ?_;intro K hK) | (with_reducible refine hK _ ?_;clear hK K) | (refine stq ?_;simp (disch:=(first | omega | (simp;omega))) only [go_sem,w64,ratsD,matD]) | refine and_side ?_ | fail)
      (first | refine callA (hb) ?_ | refine callD (hb) ?_ | refine callE (hb) ?_ | refine callF (hb) ?_ ?_)
      repeat' (first | refine awp_seq ?_ | refine stp ?_ | refine blk_o (by decide) ?_ | (apply awp_condB;(focus (simp (disch:=(first | omega | (simp;omega))) only [go_sem,w64,ansBS,ratDV];try exact rfl));first | with_reducible refine condOf_t ?_ | with_reducible refine condOf_f ?_) | (refine awp_region' tyT_ok ?_;intro K hK) | (with_reducible refine hK _ ?_;clear hK K) | (refine stq ?_;simp (disch:=(first | omega | (simp;omega))) only [go_sem,w64,ansBS,ratDV]) | refine and_side ?_ | fail)
      refine awp_drawQ [3] tyT_ok (by kernel_rfl) (by kernel_rfl) ?_;intro K hK
      repeat' (first | refine awp_seq ?_ | refine stp ?_ | refine blk_o (by decide) ?_ | (apply awp_condB;(focus (simp (disch:=(first | omega | (simp;omega))) only [go_sem,w64];try exact rfl));first | with_reducible refine condOf_t ?_ | with_reducible refine condOf_f ?_) | (refine awp_region' tyT_ok ?_;intro K hK) | (refine awp_drawA ?_;intro K hK) | (with_reducible refine hK _ ?_;clear hK K) | (refine stq ?_;simp (disch:=(first | omega | (simp;omega))) only [go_sem,w64]) | refine and_side ?_ | fail)
      (refine endA (r:=.tup [.d (ratsD F.pt),.d (.agg [.int F.val.num,.int F.val.den]),.d (.bool F.found)]) ?_)
      exact ⟨rfl,rfl⟩
end
section
variable (A:List (List RatD)) (B Cc:List RatD) (hA:A.length≤1048576) (hr:∀ i,i<A.length→(mx A i).length≤1048576) (hB:B.length≤1048576) (hC:Cc.length≤1048576)
include hA hr hB hC
end
end Go.Proofs.Ytpbclpopoodklaa
