/- Lemmas for the proof of FnExactMaximumPacking, part 22 of 27: no condition of their own. -/
import Derived.Test.YteiaofkgbdlpoaaDoorJ21
import Derived.Test.YteiaofkgbdlpoaaDoorJ8
import Derived.Test.YteiaofkgbdlpoaaDoorJ9
import Derived.Test.YteiaofkgbdlpoaaDoorJ1
import Derived.Deep.RegionLaw
import Derived.Deep.AppendLies
import Derived.Test.YteiaofkgbdlpoaaDoorJ2
namespace Go.Proofs.YteiaofkgbdlpoaaDoor
set_option linter.unusedSimpArgs false
set_option linter.unusedVariables false
attribute [local go_sem ↓] reduceIte
attribute [local go_sem] Nat.reduceEqDiff Nat.reduceLT Nat.reduceAdd Nat.reduceLeDiff Nat.reduceMul Nat.reduceBEq Nat.reduceSub reduceCtorEq Int.reduceLE Int.reduceNeg Int.reduceLT
open Go.RowKit
structure BestS where
 pt:List RatD
 val:RatD
 found:Bool
def bestT (C:List RatD) (sg:Int) (st:BestS) (x:List RatD):BestS:=match dotF C x with
 | none=>st
 | some v=>if st.found=false∨sg*cmpQ v st.val<0 then ⟨x,v,true⟩ else st
theorem wq0:whQ []=.wh 2 []:=rfl
def best0:BestS:=⟨[],⟨0,0⟩,false⟩
def bestTo (C:List RatD) (V:List (List RatD)) (sg:Int) (i:Nat):BestS:=(V.take i).foldl (bestT C sg) best0
def bestF (C:List RatD) (V:List (List RatD)) (sg:Int):BestS:=V.foldl (bestT C sg) best0
theorem bestTo_succ (C:List RatD) {V:List (List RatD)} (sg:Int) {i:Nat} (h:i<V.length):bestTo C V sg (i+1)=bestT C sg (bestTo C V sg i) (mx V i):=by
 unfold bestTo
 rw [List.take_add_one,List.getElem?_eq_getElem h,List.foldl_append]
 simp [mx,h]
theorem bestTo_all (C:List RatD) (V:List (List RatD)) (sg:Int):bestTo C V sg V.length=bestF C V sg:=by unfold bestTo bestF;rw [List.take_length]
def ansB (b:BestS):AV:=.tup [.d (whQ b.pt),.d (ratDV b.val),.d (.bool b.found)]
def ansBS (b:BestS):AV:=.tup [.d (ratsD b.pt),.d (ratDV b.val),.d (.bool b.found)]
set_option maxHeartbeats 4000000 in
theorem implBestA (A:List (List RatD)) (B Cc:List RatD) (sg:Int) (hlp:lpV A B Cc=true) (hsg:sg=1∨sg = -1):AFn 61 [.d (lpD A B Cc),.d (.int sg)] [] (fun r os=>r=ansB (bestF Cc (vertF A B Cc sg) sg)∧os=[]):=by
 obtain ⟨_,hVl,hVn,hC5⟩:=vert_law (sg:=sg) hlp
 refine afn_of (rv:=[.tmp 4,.cell 5 43,.tmp 6]) tyW_ok Tryd.func61 rfl (by decide +kernel) Tryd.ntmps61 rfl (by simp) ?_
 repeat' (first | refine sq ?_ | refine stp ?_ | refine blk_o (by decide) ?_ | (apply cb;(focus (simp (disch:=(first | omega | (simp;omega))) only [go_sem,w64,lpD];try exact rfl));refine cok ?_) | (refine rgW ?_;intro K hK) | (refine dA ?_;intro K hK) | (with_reducible refine hK _ ?_;clear hK K) | (refine stq ?_;simp (disch:=(first | omega | (simp;omega))) only [go_sem,w64,lpD]) | refine as1 ?_ | fail)
 (first | refine callA (implVertA A B Cc sg hlp hsg) ?_ | refine callD (implVertA A B Cc sg hlp hsg) ?_ | refine callE (implVertA A B Cc sg hlp hsg) ?_ | refine callF (implVertA A B Cc sg hlp hsg) ?_ ?_)
 generalize vertF A B Cc sg=V at *
 have hVm:(V.map whQ).length=V.length:=List.length_map ..
 repeat' (first | refine sq ?_ | refine stp ?_ | refine blk_o (by decide) ?_ | (apply cb;(focus (simp (disch:=(first | omega | (simp;omega))) only [go_sem,w64,lpD,hVm];try exact rfl));refine cok ?_) | (refine rgW ?_;intro K hK) | (refine dA ?_;intro K hK) | (with_reducible refine hK _ ?_;clear hK K) | (refine stq ?_;simp (disch:=(first | omega | (simp;omega))) only [go_sem,w64,lpD,hVm]) | refine as1 ?_ | fail)
 refine awp_loopw (fun mm s=>∃ i b,mm=V.length - i∧i≤V.length∧b=bestTo Cc V sg i∧s=mkS [(1,.d (.int sg)),(2,.ptr 2 0),(5,.ptr 5 0),(7,.d (whQ b.pt)),(8,.ptr 8 0),(9,.d (.bool b.found)),(16,.d (.wh 1 (V.map whQ))),(17,.d (.int (V.length:Nat))),(18,.d (.int (i:Nat)))] [(2,[.d (matD A),.d (ratsD B),.d (ratsD Cc)]),(5,[.d (.int 0),.d (.int 0)]),(8,[.d (.int b.val.num),.d (.int b.val.den)])]) ?_ ?_
 ·refine ⟨_,_,?_,0,best0,rfl,Nat.zero_le _,rfl,rfl⟩
  (refine sle_mk ?_ ?_ <;> simp (disch:=(first | omega | (simp;omega))) only [go_sem,w64,hVm,best0,wq0] <;> exact leafs)
 ·rintro mm s ⟨i,b,rfl,hi,hb,rfl⟩
  obtain ⟨pt,val,found⟩:=b
  repeat' (first | refine sq ?_ | refine stp ?_ | refine blk_o (by decide) ?_ | (apply cb;(focus (simp (disch:=(first | omega | (simp;omega))) only [go_sem,w64];try exact rfl));refine cok ?_) | (refine rgW ?_;intro K hK) | (refine dA ?_;intro K hK) | (with_reducible refine hK _ ?_;clear hK K) | (refine stq ?_;simp (disch:=(first | omega | (simp;omega))) only [go_sem,w64]) | refine as1 ?_ | fail)
  refine awp_if (p:=(i:Int)<(V.length:Nat)) (by simp (disch:=(first | omega | (simp;omega))) only [go_sem,w64]) ?_ ?_ <;> intro hc
  ·have hi2:i<V.length:=by omega
   have g0:(V.map whQ).getD i (.bool false)=whQ (mx V i):=by simp [List.getD,mx,hi2]
   have hs:=bestTo_succ Cc sg hi2
   have hxl:(mx V i).length≤1048576:=by
    have:=hVl (mx V i) (by simp [mx,hi2])
    omega
   generalize mx V i=x at *
   rw [← hb] at hs
   repeat' (first | refine sq ?_ | refine stp ?_ | refine blk_o (by decide) ?_ | (apply cb;(focus (simp (disch:=(first | omega | (simp;omega))) only [go_sem,w64,hVm,g0];try exact rfl));refine cok ?_) | (refine rgW ?_;intro K hK) | (refine dA ?_;intro K hK) | (with_reducible refine hK _ ?_;clear hK K) | (refine stq ?_;simp (disch:=(first | omega | (simp;omega))) only [go_sem,w64,hVm,g0]) | refine as1 ?_ | fail)
   (first | refine callA (implDotA Cc x (by omega) hxl) ?_ | refine callD (implDotA Cc x (by omega) hxl) ?_ | refine callE (implDotA Cc x (by omega) hxl) ?_ | refine callF (implDotA Cc x (by omega) hxl) ?_ ?_)
   cases hd:dotF Cc x with
   | none =>
    have hs2:(⟨pt,val,found⟩:BestS)=bestTo Cc V sg (i+1):=by rw [hs];unfold bestT;rw [hd]
    repeat' (first | refine sq ?_ | refine stp ?_ | refine blk_o (by decide) ?_ | (apply cb;(focus (simp (disch:=(first | omega | (simp;omega))) only [go_sem,w64,ansQ,ratDV];try exact rfl));refine cok ?_) | (refine rgW ?_;intro K hK) | (refine dA ?_;intro K hK) | (with_reducible refine hK _ ?_;clear hK K) | (refine stq ?_;simp (disch:=(first | omega | (simp;omega))) only [go_sem,w64,ansQ,ratDV]) | refine as1 ?_ | fail)
    refine ⟨V.length - (i+1),_,by omega,?_,i+1,_,rfl,by omega,hs2,rfl⟩
    exact sleA
   | some v =>
    cases found with
    | false =>
     have hs2:(⟨x,v,true⟩:BestS)=bestTo Cc V sg (i+1):=by rw [hs];unfold bestT;rw [hd];simp
     repeat' (first | refine sq ?_ | refine stp ?_ | refine blk_o (by decide) ?_ | (apply cb;(focus (simp (disch:=(first | omega | (simp;omega))) only [go_sem,w64,ansQ,ratDV];try exact rfl));refine cok ?_) | (refine rgW ?_;intro K hK) | (refine dA ?_;intro K hK) | (with_reducible refine hK _ ?_;clear hK K) | (refine stq ?_;simp (disch:=(first | omega | (simp;omega))) only [go_sem,w64,ansQ,ratDV]) | refine as1 ?_ | fail)
     refine ⟨V.length - (i+1),_,by omega,?_,i+1,_,rfl,by omega,hs2,rfl⟩
     exact sleA
    | true =>
     have hcm:=implCmpA v val
     have w1:=sg_w hsg (cmpQ_rg v val)
     have hs3:bestTo Cc V sg (i+1)=if sg*cmpQ v val<0 then ⟨x,v,true⟩ else ⟨pt,val,true⟩:=by rw [hs];unfold bestT;rw [hd];simp
     generalize cmpQ v val=c at *
     repeat' (first | refine sq ?_ | refine stp ?_ | refine blk_o (by decide) ?_ | (apply cb;(focus (simp (disch:=(first | omega | (simp;omega))) only [go_sem,w64,ansQ,ratDV];try exact rfl));refine cok ?_) | (refine rgW ?_;intro K hK) | (refine dA ?_;intro K hK) | (with_reducible refine hK _ ?_;clear hK K) | (refine stq ?_;simp (disch:=(first | omega | (simp;omega))) only [go_sem,w64,ansQ,ratDV]) | refine as1 ?_ | fail)
     (first | refine callA (hcm) ?_ | refine callD (hcm) ?_ | refine callE (hcm) ?_ | refine callF (hcm) ?_ ?_)
     by_cases hcs:sg*c<0
     ·rw [if_pos hcs] at hs3
      have z1:decide (sg*c<0)=true:=decide_eq_true hcs
      repeat' (first | refine sq ?_ | refine stp ?_ | refine blk_o (by decide) ?_ | (apply cb;(focus (simp (disch:=(first | omega | (simp;omega))) only [go_sem,w64,w1,z1];try exact rfl));refine cok ?_) | (refine rgW ?_;intro K hK) | (refine dA ?_;intro K hK) | (with_reducible refine hK _ ?_;clear hK K) | (refine stq ?_;simp (disch:=(first | omega | (simp;omega))) only [go_sem,w64,w1,z1]) | refine as1 ?_ | fail)
      refine ⟨V.length - (i+1),_,by omega,?_,i+1,_,rfl,by omega,hs3.symm,rfl⟩
      exact sleA
     ·rw [if_neg hcs] at hs3
      have z1:decide (sg*c<0)=false:=decide_eq_false hcs
      repeat' (first | refine sq ?_ | refine stp ?_ | refine blk_o (by decide) ?_ | (apply cb;(focus (simp (disch:=(first | omega | (simp;omega))) only [go_sem,w64,w1,z1];try exact rfl));refine cok ?_) | (refine rgW ?_;intro K hK) | (refine dA ?_;intro K hK) | (with_reducible refine hK _ ?_;clear hK K) | (refine stq ?_;simp (disch:=(first | omega | (simp;omega))) only [go_sem,w64,w1,z1]) | refine as1 ?_ | fail)
      refine ⟨V.length - (i+1),_,by omega,?_,i+1,_,rfl,by omega,hs3.symm,rfl⟩
      exact sleA
  ·obtain rfl:i=V.length:=by omega
   rw [bestTo_all] at hb
   rw [← hb]
   repeat' (first | refine sq ?_ | refine stp ?_ | refine blk_o (by decide) ?_ | (apply cb;(focus (simp (disch:=(first | omega | (simp;omega))) only [go_sem,w64];try exact rfl));refine cok ?_) | (refine rgT ?_;intro K hK) | (with_reducible refine hK _ ?_;clear hK K) | (refine stq ?_;simp (disch:=(first | omega | (simp;omega))) only [go_sem,w64]) | refine as1 ?_ | fail)
   refine awp_drawQ [5] tyT_ok (by kernel_rfl) (by kernel_rfl) ?_;intro K hK
   repeat' (first | refine sq ?_ | refine stp ?_ | refine blk_o (by decide) ?_ | (apply cb;(focus (simp (disch:=(first | omega | (simp;omega))) only [go_sem,w64];try exact rfl));refine cok ?_) | (refine rgW ?_;intro K hK) | (refine dA ?_;intro K hK) | (with_reducible refine hK _ ?_;clear hK K) | (refine stq ?_;simp (disch:=(first | omega | (simp;omega))) only [go_sem,w64]) | refine as1 ?_ | fail)
   (refine endA (r:=.tup [.d (whQ pt),.d (.agg [.int val.num,.int val.den]),.d (.bool found)]) ?_)
   exact ⟨rfl,rfl⟩
set_option maxHeartbeats 4000000 in
theorem specBestA (A:List (List RatD)) (B Cc:List RatD) (sg:Int) (hlp:lpV A B Cc=true) (hsg:sg=1∨sg = -1):AFn 59 [.d (lpD A B Cc),.d (.int sg)] [] (fun r os=>r=ansBS (bestF Cc (vertF A B Cc sg) sg)∧os=[]):=by
 obtain ⟨_,hVl,hVn,hC5⟩:=vert_law (sg:=sg) hlp
 refine afn_of (rv:=[.tmp 4,.cell 5 43,.tmp 6]) tyT_ok Tryd.func59 rfl (by decide +kernel) Tryd.ntmps59 rfl (by simp) ?_
 repeat' (first | refine sq ?_ | refine stp ?_ | refine blk_o (by decide) ?_ | (apply cb;(focus (simp (disch:=(first | omega | (simp;omega))) only [go_sem,w64,lpD];try exact rfl));refine cok ?_) | (refine rgT ?_;intro K hK) | (refine dA ?_;intro K hK) | (with_reducible refine hK _ ?_;clear hK K) | (refine stq ?_;simp (disch:=(first | omega | (simp;omega))) only [go_sem,w64,lpD]) | refine as1 ?_ | fail)
 (first | refine callA (specPointsA A B Cc sg hlp hsg) ?_ | refine callD (specPointsA A B Cc sg hlp hsg) ?_ | refine callE (specPointsA A B Cc sg hlp hsg) ?_ | refine callF (specPointsA A B Cc sg hlp hsg) ?_ ?_)
 generalize vertF A B Cc sg=V at *
 have hVm:(V.map ratsD).length=V.length:=List.length_map ..
 repeat' (first | refine sq ?_ | refine stp ?_ | refine blk_o (by decide) ?_ | (apply cb;(focus (simp (disch:=(first | omega | (simp;omega))) only [go_sem,w64,lpD,hVm];try exact rfl));refine cok ?_) | (refine rgT ?_;intro K hK) | (refine dA ?_;intro K hK) | (with_reducible refine hK _ ?_;clear hK K) | (refine stq ?_;simp (disch:=(first | omega | (simp;omega))) only [go_sem,w64,lpD,hVm]) | refine as1 ?_ | fail)
 refine awp_loopw (fun mm s=>∃ i b,mm=V.length - i∧i≤V.length∧b=bestTo Cc V sg i∧s=mkS [(1,.d (.int sg)),(2,.ptr 2 0),(5,.ptr 5 0),(7,.d (ratsD b.pt)),(8,.ptr 8 0),(9,.d (.sl 1 (V.map ratsD))),(10,.d (.bool b.found)),(11,.d (.int (i:Nat)))] [(2,[.d (matD A),.d (ratsD B),.d (ratsD Cc)]),(5,[.d (.int 0),.d (.int 0)]),(8,[.d (.int b.val.num),.d (.int b.val.den)])]) ?_ ?_
 ·refine ⟨_,_,?_,0,best0,rfl,Nat.zero_le _,rfl,rfl⟩
  (refine sle_mk ?_ ?_ <;> simp (disch:=(first | omega | (simp;omega))) only [go_sem,w64,hVm,best0,List.map_nil] <;> exact leafs)
 ·rintro mm s ⟨i,b,rfl,hi,hb,rfl⟩
  obtain ⟨pt,val,found⟩:=b
  repeat' (first | refine sq ?_ | refine stp ?_ | refine blk_o (by decide) ?_ | (apply cb;(focus (simp (disch:=(first | omega | (simp;omega))) only [go_sem,w64,hVm];try exact rfl));refine cok ?_) | (refine rgT ?_;intro K hK) | (refine dA ?_;intro K hK) | (with_reducible refine hK _ ?_;clear hK K) | (refine stq ?_;simp (disch:=(first | omega | (simp;omega))) only [go_sem,w64,hVm]) | refine as1 ?_ | fail)
  refine awp_if (p:=(i:Int)<(V.length:Nat)) (by simp (disch:=(first | omega | (simp;omega))) only [go_sem,w64,hVm]) ?_ ?_ <;> intro hc
  ·have hi2:i<V.length:=by omega
   have g0:(V.map ratsD).getD i (.bool false)=ratsD (mx V i):=by simp [List.getD,mx,hi2]
   have hs:=bestTo_succ Cc sg hi2
   have hxl:(mx V i).length≤1048576:=by
    have:=hVl (mx V i) (by simp [mx,hi2])
    omega
   generalize mx V i=x at *
   rw [← hb] at hs
   repeat' (first | refine sq ?_ | refine stp ?_ | refine blk_o (by decide) ?_ | (apply cb;(focus (simp (disch:=(first | omega | (simp;omega))) only [go_sem,w64,hVm,g0];try exact rfl));refine cok ?_) | (refine rgT ?_;intro K hK) | (refine dA ?_;intro K hK) | (with_reducible refine hK _ ?_;clear hK K) | (refine stq ?_;simp (disch:=(first | omega | (simp;omega))) only [go_sem,w64,hVm,g0]) | refine as1 ?_ | fail)
   (first | refine callA (specDotA Cc x (by omega) hxl) ?_ | refine callD (specDotA Cc x (by omega) hxl) ?_ | refine callE (specDotA Cc x (by omega) hxl) ?_ | refine callF (specDotA Cc x (by omega) hxl) ?_ ?_)
   cases hd:dotF Cc x with
   | none =>
    have hs2:(⟨pt,val,found⟩:BestS)=bestTo Cc V sg (i+1):=by rw [hs];unfold bestT;rw [hd]
    repeat' (first | refine sq ?_ | refine stp ?_ | refine blk_o (by decide) ?_ | (apply cb;(focus (simp (disch:=(first | omega | (simp;omega))) only [go_sem,w64,ansQ,ratDV];try exact rfl));refine cok ?_) | (refine rgT ?_;intro K hK) | (refine dA ?_;intro K hK) | (with_reducible refine hK _ ?_;clear hK K) | (refine stq ?_;simp (disch:=(first | omega | (simp;omega))) only [go_sem,w64,ansQ,ratDV]) | refine as1 ?_ | fail)
    refine ⟨V.length - (i+1),_,by omega,?_,i+1,_,rfl,by omega,hs2,rfl⟩
    exact sleA
   | some v =>
    cases found with
    | false =>
     have hs2:(⟨x,v,true⟩:BestS)=bestTo Cc V sg (i+1):=by rw [hs];unfold bestT;rw [hd];simp
     repeat' (first | refine sq ?_ | refine stp ?_ | refine blk_o (by decide) ?_ | (apply cb;(focus (simp (disch:=(first | omega | (simp;omega))) only [go_sem,w64,ansQ,ratDV,hVm,g0];try exact rfl));refine cok ?_) | (refine rgT ?_;intro K hK) | (refine dA ?_;intro K hK) | (with_reducible refine hK _ ?_;clear hK K) | (refine stq ?_;simp (disch:=(first | omega | (simp;omega))) only [go_sem,w64,ansQ,ratDV,hVm,g0]) | refine as1 ?_ | fail)
     refine ⟨V.length - (i+1),_,by omega,?_,i+1,_,rfl,by omega,hs2,rfl⟩
     exact sleA
    | true =>
     have hcm:=specCmpA v val
     have w1:=sg_w hsg (cmpQ_rg v val)
     rw [Int.mul_comm] at w1
     have hs3:bestTo Cc V sg (i+1)=if sg*cmpQ v val<0 then ⟨x,v,true⟩ else ⟨pt,val,true⟩:=by rw [hs];unfold bestT;rw [hd];simp
     rw [Int.mul_comm] at hs3
     generalize cmpQ v val=c at *
     repeat' (first | refine sq ?_ | refine stp ?_ | refine blk_o (by decide) ?_ | (apply cb;(focus (simp (disch:=(first | omega | (simp;omega))) only [go_sem,w64,ansQ,ratDV];try exact rfl));refine cok ?_) | (refine rgT ?_;intro K hK) | (refine dA ?_;intro K hK) | (with_reducible refine hK _ ?_;clear hK K) | (refine stq ?_;simp (disch:=(first | omega | (simp;omega))) only [go_sem,w64,ansQ,ratDV]) | refine as1 ?_ | fail)
     (first | refine callA (hcm) ?_ | refine callD (hcm) ?_ | refine callE (hcm) ?_ | refine callF (hcm) ?_ ?_)
     by_cases hcs:c*sg<0
     ·rw [if_pos hcs] at hs3
      have z1:decide (c*sg<0)=true:=decide_eq_true hcs
      repeat' (first | refine sq ?_ | refine stp ?_ | refine blk_o (by decide) ?_ | (apply cb;(focus (simp (disch:=(first | omega | (simp;omega))) only [go_sem,w64,w1,z1,hVm,g0];try exact rfl));refine cok ?_) | (refine rgT ?_;intro K hK) | (refine dA ?_;intro K hK) | (with_reducible refine hK _ ?_;clear hK K) | (refine stq ?_;simp (disch:=(first | omega | (simp;omega))) only [go_sem,w64,w1,z1,hVm,g0]) | refine as1 ?_ | fail)
      refine ⟨V.length - (i+1),_,by omega,?_,i+1,_,rfl,by omega,hs3.symm,rfl⟩
      exact sleA
     ·rw [if_neg hcs] at hs3
      have z1:decide (c*sg<0)=false:=decide_eq_false hcs
      repeat' (first | refine sq ?_ | refine stp ?_ | refine blk_o (by decide) ?_ | (apply cb;(focus (simp (disch:=(first | omega | (simp;omega))) only [go_sem,w64,w1,z1];try exact rfl));refine cok ?_) | (refine rgT ?_;intro K hK) | (refine dA ?_;intro K hK) | (with_reducible refine hK _ ?_;clear hK K) | (refine stq ?_;simp (disch:=(first | omega | (simp;omega))) only [go_sem,w64,w1,z1]) | refine as1 ?_ | fail)
      refine ⟨V.length - (i+1),_,by omega,?_,i+1,_,rfl,by omega,hs3.symm,rfl⟩
      exact sleA
  ·obtain rfl:i=V.length:=by omega
   rw [bestTo_all] at hb
   rw [← hb]
   repeat' (first | refine sq ?_ | refine stp ?_ | refine blk_o (by decide) ?_ | (apply cb;(focus (simp (disch:=(first | omega | (simp;omega))) only [go_sem,w64,hVm];try exact rfl));refine cok ?_) | (refine rgT ?_;intro K hK) | (with_reducible refine hK _ ?_;clear hK K) | (refine stq ?_;simp (disch:=(first | omega | (simp;omega))) only [go_sem,w64,hVm]) | refine as1 ?_ | fail)
   refine awp_drawQ [5] tyT_ok (by kernel_rfl) (by kernel_rfl) ?_;intro K hK
   repeat' (first | refine sq ?_ | refine stp ?_ | refine blk_o (by decide) ?_ | (apply cb;(focus (simp (disch:=(first | omega | (simp;omega))) only [go_sem,w64];try exact rfl));refine cok ?_) | (refine rgT ?_;intro K hK) | (refine dA ?_;intro K hK) | (with_reducible refine hK _ ?_;clear hK K) | (refine stq ?_;simp (disch:=(first | omega | (simp;omega))) only [go_sem,w64]) | refine as1 ?_ | fail)
   (refine endA (r:=.tup [.d (ratsD pt),.d (.agg [.int val.num,.int val.den]),.d (.bool found)]) ?_)
   exact ⟨rfl,rfl⟩
def mnF (A:List (List RatD)) (B Cc:List RatD):BestS:=if lpV A B Cc=true∧posL Cc=true then bestF Cc (vertF A B Cc 1) 1 else best0
def bndC (A:List (List RatD)) (k:Nat):Bool:=(List.range A.length).any fun i=>posL (mx A i) && decide (0<(qx (mx A i) k).num)
def bndL (A:List (List RatD)) (n:Nat):Bool:=(List.range n).all (bndC A)
def mxF (A:List (List RatD)) (B Cc:List RatD):BestS:=if lpV A B Cc=true∧bndL A Cc.length=true then bestF Cc (vertF A B Cc (-1)) (-1) else best0
theorem bestF_pt (C:List RatD) (V:List (List RatD)) (sg:Int) (m:Nat) (h:∀ y∈V,y.length≤m):(bestF C V sg).pt.length≤m :=
 foldl_inv (fun b:BestS=>b.pt.length≤m) _ _ _ (Nat.zero_le _) fun b x hx hb=>by
  unfold bestT
  split
  ·exact hb
  ·split
   ·exact h x hx
   ·exact hb
theorem mn_sz (A:List (List RatD)) (B Cc:List RatD):(mnF A B Cc).pt.length≤1048576:=by
 unfold mnF
 split
 ·rename_i h
  obtain ⟨_,h2,_,h4⟩:=vert_law (sg:=1) h.1
  exact bestF_pt _ _ _ _ fun y hy=>by rw [h2 y hy];omega
 ·exact Nat.zero_le _
theorem plusA (l:List RatD) (hl:l.length≤1048576):AFn 58 [.d (ratsD l)] [] (fun r os=>r=.d (.bool (posL l))∧os=[]):=by
 refine afn_of (rv:=[.tmp 2]) tyT_ok Tryd.func58 rfl (by decide +kernel) Tryd.ntmps58 rfl (by simp) ?_
 repeat' (first | refine sq ?_ | refine stp ?_ | refine blk_o (by decide) ?_ | (apply cb;(focus (simp (disch:=(first | omega | (simp;omega))) only [go_sem,w64,ratsD];try exact rfl));refine cok ?_) | (refine rgT ?_;intro K hK) | (refine dA ?_;intro K hK) | (with_reducible refine hK _ ?_;clear hK K) | (refine stq ?_;simp (disch:=(first | omega | (simp;omega))) only [go_sem,w64,ratsD]) | refine as1 ?_ | fail)
 refine awp_loopw (fun mm s=>∃ i,mm=l.length - i∧i≤l.length∧(∀ j,j<i→0≤(qx l j).num)∧s=mkS [(0,.d (ratsD l)),(3,.d (.int (i:Nat)))] []) ?_ ?_
 ·refine ⟨_,_,?_,0,rfl,Nat.zero_le _,fun j h=>absurd h (Nat.not_lt_zero _),rfl⟩
  (refine sle_mk ?_ ?_ <;> simp (disch:=(first | omega | (simp;omega))) only [go_sem,w64,ratsD] <;> exact leafs)
 ·rintro mm s ⟨i,rfl,hi,hd,rfl⟩
  repeat' (first | refine sq ?_ | refine stp ?_ | refine blk_o (by decide) ?_ | (apply cb;(focus (simp (disch:=(first | omega | (simp;omega))) only [go_sem,w64,ratsD];try exact rfl));refine cok ?_) | (refine rgT ?_;intro K hK) | (refine dA ?_;intro K hK) | (with_reducible refine hK _ ?_;clear hK K) | (refine stq ?_;simp (disch:=(first | omega | (simp;omega))) only [go_sem,w64,ratsD]) | refine as1 ?_ | fail)
  refine awp_if (p:=(i:Int)<(l.length:Nat)) (by simp (disch:=(first | omega | (simp;omega))) only [go_sem,w64,ratsD]) ?_ ?_ <;> intro hc
  ·have hi2:i<l.length:=by omega
   have g0:(l.map ratDV).getD i (.bool false)=ratDV (qx l i):=getDq hi2
   repeat' (first | refine sq ?_ | refine stp ?_ | refine blk_o (by decide) ?_ | (apply cb;(focus (simp (disch:=(first | omega | (simp;omega))) only [go_sem,w64,ratsD,g0,ratDV];try exact rfl));refine cok ?_) | (refine rgT ?_;intro K hK) | (refine dA ?_;intro K hK) | (with_reducible refine hK _ ?_;clear hK K) | (refine stq ?_;simp (disch:=(first | omega | (simp;omega))) only [go_sem,w64,ratsD,g0,ratDV]) | refine as1 ?_ | fail)
   refine awp_if (p:=(qx l i).num<0) (by simp (disch:=(first | omega | (simp;omega))) only [go_sem,w64]) ?_ ?_ <;> intro hc2
   ·repeat' (first | refine sq ?_ | refine stp ?_ | refine blk_o (by decide) ?_ | (apply cb;(focus (simp (disch:=(first | omega | (simp;omega))) only [go_sem,w64];try exact rfl));refine cok ?_) | (refine rgT ?_;intro K hK) | (refine dA ?_;intro K hK) | (with_reducible refine hK _ ?_;clear hK K) | (refine stq ?_;simp (disch:=(first | omega | (simp;omega))) only [go_sem,w64]) | refine as1 ?_ | fail)
    (refine endA (r:=.d (.bool false)) ?_)
    exact ⟨by rw [posL_no hi2 (by omega)],rfl⟩
   ·repeat' (first | refine sq ?_ | refine stp ?_ | refine blk_o (by decide) ?_ | (apply cb;(focus (simp (disch:=(first | omega | (simp;omega))) only [go_sem,w64];try exact rfl));refine cok ?_) | (refine rgT ?_;intro K hK) | (refine dA ?_;intro K hK) | (with_reducible refine hK _ ?_;clear hK K) | (refine stq ?_;simp (disch:=(first | omega | (simp;omega))) only [go_sem,w64]) | refine as1 ?_ | fail)
    refine ⟨l.length - (i+1),_,by omega,?_,i+1,rfl,by omega,fun j hj=>?_,rfl⟩
    ·(refine sle_mk ?_ ?_ <;> simp (disch:=(first | omega | (simp;omega))) only [go_sem,w64,ratsD] <;> exact leafs)
    ·by_cases e:j=i
     ·subst e;omega
     ·exact hd j (by omega)
  ·obtain rfl:i=l.length:=by omega
   repeat' (first | refine sq ?_ | refine stp ?_ | refine blk_o (by decide) ?_ | (apply cb;(focus (simp (disch:=(first | omega | (simp;omega))) only [go_sem,w64];try exact rfl));refine cok ?_) | (refine rgT ?_;intro K hK) | (refine dA ?_;intro K hK) | (with_reducible refine hK _ ?_;clear hK K) | (refine stq ?_;simp (disch:=(first | omega | (simp;omega))) only [go_sem,w64]) | refine as1 ?_ | fail)
   (refine endA (r:=.d (.bool true)) ?_)
   exact ⟨by rw [posL_yes hd],rfl⟩
section
variable (A:List (List RatD)) (B Cc:List RatD) (hA:A.length≤1048576) (hr:∀ i,i<A.length→(mx A i).length≤1048576) (hB:B.length≤1048576) (hC:Cc.length≤1048576)
include hA hr hB hC
set_option maxHeartbeats 2000000 in
theorem implMinA:AFn 40 [.d (lpD A B Cc)] [] (fun r os=>r=ansB (mnF A B Cc)∧os=[]):=by
 refine afn_of (rv:=[.tmp 2,.cell 3 43,.tmp 4]) tyW_ok Tryd.func40 rfl (by decide +kernel) Tryd.ntmps40 rfl (by simp) ?_
 repeat' (first | refine sq ?_ | refine stp ?_ | refine blk_o (by decide) ?_ | (apply cb;(focus (simp (disch:=(first | omega | (simp;omega))) only [go_sem,w64,lpD];try exact rfl));refine cok ?_) | (refine rgW ?_;intro K hK) | (refine dA ?_;intro K hK) | (with_reducible refine hK _ ?_;clear hK K) | (refine stq ?_;simp (disch:=(first | omega | (simp;omega))) only [go_sem,w64,lpD]) | refine as1 ?_ | fail)
 (first | refine callA (implLpA A B Cc hA hr hB hC) ?_ | refine callD (implLpA A B Cc hA hr hB hC) ?_ | refine callE (implLpA A B Cc hA hr hB hC) ?_ | refine callF (implLpA A B Cc hA hr hB hC) ?_ ?_)
 cases h:lpV A B Cc with
 | false =>
  repeat' (first | refine sq ?_ | refine stp ?_ | refine blk_o (by decide) ?_ | (apply cb;(focus (simp (disch:=(first | omega | (simp;omega))) only [go_sem,w64,h,lpD];try exact rfl));refine cok ?_) | (refine rgW ?_;intro K hK) | (refine dA ?_;intro K hK) | (with_reducible refine hK _ ?_;clear hK K) | (refine stq ?_;simp (disch:=(first | omega | (simp;omega))) only [go_sem,w64,h,lpD]) | refine as1 ?_ | fail)
  (refine endA (r:=.tup [.d (.wh 2 []),.d (.agg [.int 0,.int 0]),.d (.bool false)]) ?_)
  exact ⟨by unfold mnF;rw [if_neg (by rw [h];simp)];rfl,rfl⟩
 | true =>
  repeat' (first | refine sq ?_ | refine stp ?_ | refine blk_o (by decide) ?_ | (apply cb;(focus (simp (disch:=(first | omega | (simp;omega))) only [go_sem,w64,h,lpD,ratsD];try exact rfl));refine cok ?_) | (refine rgW ?_;intro K hK) | (refine dA ?_;intro K hK) | (with_reducible refine hK _ ?_;clear hK K) | (refine stq ?_;simp (disch:=(first | omega | (simp;omega))) only [go_sem,w64,h,lpD,ratsD]) | refine as1 ?_ | fail)
  refine awp_loopw (fun mm s=>∃ i,mm=Cc.length - i∧i≤Cc.length∧(∀ j,j<i→0≤(qx Cc j).num)∧s=mkS [(1,.ptr 1 0),(3,.ptr 3 0),(12,.d (ratsD Cc)),(13,.d (.int (Cc.length:Nat))),(14,.d (.int (i:Nat)))] [(1,[.d (matD A),.d (ratsD B),.d (ratsD Cc)]),(3,[.d (.int 0),.d (.int 0)])]) ?_ ?_
  ·refine ⟨_,_,?_,0,rfl,Nat.zero_le _,fun j h=>absurd h (Nat.not_lt_zero _),rfl⟩
   (refine sle_mk ?_ ?_ <;> simp (disch:=(first | omega | (simp;omega))) only [go_sem,w64,ratsD,matD] <;> exact leafs)
  ·rintro mm s ⟨i,rfl,hi,hd,rfl⟩
   repeat' (first | refine sq ?_ | refine stp ?_ | refine blk_o (by decide) ?_ | (apply cb;(focus (simp (disch:=(first | omega | (simp;omega))) only [go_sem,w64,ratsD];try exact rfl));refine cok ?_) | (refine rgW ?_;intro K hK) | (refine dA ?_;intro K hK) | (with_reducible refine hK _ ?_;clear hK K) | (refine stq ?_;simp (disch:=(first | omega | (simp;omega))) only [go_sem,w64,ratsD]) | refine as1 ?_ | fail)
   refine awp_if (p:=(i:Int)<(Cc.length:Nat)) (by simp (disch:=(first | omega | (simp;omega))) only [go_sem,w64,ratsD]) ?_ ?_ <;> intro hc
   ·have hi2:i<Cc.length:=by omega
    have g0:(Cc.map ratDV).getD i (.bool false)=ratDV (qx Cc i):=getDq hi2
    repeat' (first | refine sq ?_ | refine stp ?_ | refine blk_o (by decide) ?_ | (apply cb;(focus (simp (disch:=(first | omega | (simp;omega))) only [go_sem,w64,ratsD,g0,ratDV];try exact rfl));refine cok ?_) | (refine rgW ?_;intro K hK) | (refine dA ?_;intro K hK) | (with_reducible refine hK _ ?_;clear hK K) | (refine stq ?_;simp (disch:=(first | omega | (simp;omega))) only [go_sem,w64,ratsD,g0,ratDV]) | refine as1 ?_ | fail)
    refine awp_if (p:=(qx Cc i).num<0) (by simp (disch:=(first | omega | (simp;omega))) only [go_sem,w64]) ?_ ?_ <;> intro hc2
    ·repeat' (first | refine sq ?_ | refine stp ?_ | refine blk_o (by decide) ?_ | (apply cb;(focus (simp (disch:=(first | omega | (simp;omega))) only [go_sem,w64];try exact rfl));refine cok ?_) | (refine rgW ?_;intro K hK) | (refine dA ?_;intro K hK) | (with_reducible refine hK _ ?_;clear hK K) | (refine stq ?_;simp (disch:=(first | omega | (simp;omega))) only [go_sem,w64]) | refine as1 ?_ | fail)
     (refine endA (r:=.tup [.d (.wh 2 []),.d (.agg [.int 0,.int 0]),.d (.bool false)]) ?_)
     exact ⟨by unfold mnF;rw [if_neg (by rw [posL_no hi2 (by omega)];simp)];rfl,rfl⟩
    ·repeat' (first | refine sq ?_ | refine stp ?_ | refine blk_o (by decide) ?_ | (apply cb;(focus (simp (disch:=(first | omega | (simp;omega))) only [go_sem,w64];try exact rfl));refine cok ?_) | (refine rgW ?_;intro K hK) | (refine dA ?_;intro K hK) | (with_reducible refine hK _ ?_;clear hK K) | (refine stq ?_;simp (disch:=(first | omega | (simp;omega))) only [go_sem,w64]) | refine as1 ?_ | fail)
     refine ⟨Cc.length - (i+1),_,by omega,?_,i+1,rfl,by omega,fun j hj=>?_,rfl⟩
     ·(refine sle_mk ?_ ?_ <;> simp (disch:=(first | omega | (simp;omega))) only [go_sem,w64,ratsD,matD] <;> exact leafs)
     ·by_cases e:j=i
      ·subst e;omega
      ·exact hd j (by omega)
   ·obtain rfl:i=Cc.length:=by omega
    have hm:mnF A B Cc=bestF Cc (vertF A B Cc 1) 1:=by unfold mnF;rw [if_pos ⟨h,posL_yes hd⟩]
    have hb:=implBestA A B Cc 1 h (.inl rfl)
    rw [← hm] at hb
    generalize mnF A B Cc=F at *
    repeat' (first | refine sq ?_ | refine stp ?_ | refine blk_o (by decide) ?_ | (apply cb;(focus (simp (disch:=(first | omega | (simp;omega))) only [go_sem,w64,ratsD,matD];try exact rfl));refine cok ?_) | (refine rgW ?_;intro K hK) | (refine dA ?_;intro K hK) | (with_reducible refine hK _ ?_;clear hK K) | (refine stq ?_;simp (disch:=(first | omega | (simp;omega))) only [go_sem,w64,ratsD,matD]) | refine as1 ?_ | fail)
    (first | refine callA (hb) ?_ | refine callD (hb) ?_ | refine callE (hb) ?_ | refine callF (hb) ?_ ?_)
    repeat' (first | refine sq ?_ | refine stp ?_ | refine blk_o (by decide) ?_ | (apply cb;(focus (simp (disch:=(first | omega | (simp;omega))) only [go_sem,w64,ansB,ratDV];try exact rfl));refine cok ?_) | (refine rgW ?_;intro K hK) | (refine dA ?_;intro K hK) | (with_reducible refine hK _ ?_;clear hK K) | (refine stq ?_;simp (disch:=(first | omega | (simp;omega))) only [go_sem,w64,ansB,ratDV]) | refine as1 ?_ | fail)
    (refine endA (r:=.tup [.d (whQ F.pt),.d (.agg [.int F.val.num,.int F.val.den]),.d (.bool F.found)]) ?_)
    exact ⟨rfl,rfl⟩
omit hr in
set_option maxHeartbeats 2000000 in
theorem specMinA:AFn 39 [.d (lpD A B Cc)] [] (fun r os=>r=ansBS (mnF A B Cc)∧os=[]):=by
 refine afn_of (rv:=[.tmp 2,.cell 3 43,.tmp 4]) tyT_ok Tryd.func39 rfl (by decide +kernel) Tryd.ntmps39 rfl (by simp) ?_
 repeat' (first | refine sq ?_ | refine stp ?_ | refine blk_o (by decide) ?_ | (apply cb;(focus (simp (disch:=(first | omega | (simp;omega))) only [go_sem,w64,lpD];try exact rfl));refine cok ?_) | (refine rgT ?_;intro K hK) | (refine dA ?_;intro K hK) | (with_reducible refine hK _ ?_;clear hK K) | (refine stq ?_;simp (disch:=(first | omega | (simp;omega))) only [go_sem,w64,lpD]) | refine as1 ?_ | fail)
 (first | refine callA (specLpA A B Cc hA hB hC) ?_ | refine callD (specLpA A B Cc hA hB hC) ?_ | refine callE (specLpA A B Cc hA hB hC) ?_ | refine callF (specLpA A B Cc hA hB hC) ?_ ?_)
 cases h:lpV A B Cc with
 | false =>
  repeat' (first | refine sq ?_ | refine stp ?_ | refine blk_o (by decide) ?_ | (apply cb;(focus (simp (disch:=(first | omega | (simp;omega))) only [go_sem,w64,h,lpD];try exact rfl));refine cok ?_) | (refine rgT ?_;intro K hK) | (refine dA ?_;intro K hK) | (with_reducible refine hK _ ?_;clear hK K) | (refine stq ?_;simp (disch:=(first | omega | (simp;omega))) only [go_sem,w64,h,lpD]) | refine as1 ?_ | fail)
  (refine endA (r:=.tup [.d (.sl 2 []),.d (.agg [.int 0,.int 0]),.d (.bool false)]) ?_)
  exact ⟨by unfold mnF;rw [if_neg (by rw [h];simp)];rfl,rfl⟩
 | true =>
  repeat' (first | refine sq ?_ | refine stp ?_ | refine blk_o (by decide) ?_ | (apply cb;(focus (simp (disch:=(first | omega | (simp;omega))) only [go_sem,w64,h,lpD,ratsD];try exact rfl));refine cok ?_) | (refine rgT ?_;intro K hK) | (refine dA ?_;intro K hK) | (with_reducible refine hK _ ?_;clear hK K) | (refine stq ?_;simp (disch:=(first | omega | (simp;omega))) only [go_sem,w64,h,lpD,ratsD]) | refine as1 ?_ | fail)
  (first | refine callA (plusA Cc hC) ?_ | refine callD (plusA Cc hC) ?_ | refine callE (plusA Cc hC) ?_ | refine callF (plusA Cc hC) ?_ ?_)
  cases h2:posL Cc with
  | false =>
   repeat' (first | refine sq ?_ | refine stp ?_ | refine blk_o (by decide) ?_ | (apply cb;(focus (simp (disch:=(first | omega | (simp;omega))) only [go_sem,w64];try exact rfl));refine cok ?_) | (refine rgT ?_;intro K hK) | (refine dA ?_;intro K hK) | (with_reducible refine hK _ ?_;clear hK K) | (refine stq ?_;simp (disch:=(first | omega | (simp;omega))) only [go_sem,w64]) | refine as1 ?_ | fail)
   (refine endA (r:=.tup [.d (.sl 2 []),.d (.agg [.int 0,.int 0]),.d (.bool false)]) ?_)
   exact ⟨by unfold mnF;rw [if_neg (by rw [h2];simp)];rfl,rfl⟩
  | true =>
   have hm:mnF A B Cc=bestF Cc (vertF A B Cc 1) 1:=by unfold mnF;rw [if_pos ⟨h,h2⟩]
   have hb:=specBestA A B Cc 1 h (.inl rfl)
   rw [← hm] at hb
   generalize mnF A B Cc=F at *
   repeat' (first | refine sq ?_ | refine stp ?_ | refine blk_o (by decide) ?_ | (apply cb;(focus (simp (disch:=(first | omega | (simp;omega))) only [go_sem,w64,ratsD,matD];try exact rfl));refine cok ?_) | (refine rgT ?_;intro K hK) | (with_reducible refine hK _ ?_;clear hK K) | (refine stq ?_;simp (disch:=(first | omega | (simp;omega))) only [go_sem,w64,ratsD,matD]) | refine as1 ?_ | fail)
   (first | refine callA (hb) ?_ | refine callD (hb) ?_ | refine callE (hb) ?_ | refine callF (hb) ?_ ?_)
   repeat' (first | refine sq ?_ | refine stp ?_ | refine blk_o (by decide) ?_ | (apply cb;(focus (simp (disch:=(first | omega | (simp;omega))) only [go_sem,w64,ansBS,ratDV];try exact rfl));refine cok ?_) | (refine rgT ?_;intro K hK) | (with_reducible refine hK _ ?_;clear hK K) | (refine stq ?_;simp (disch:=(first | omega | (simp;omega))) only [go_sem,w64,ansBS,ratDV]) | refine as1 ?_ | fail)
   refine awp_drawQ [3] tyT_ok (by kernel_rfl) (by kernel_rfl) ?_;intro K hK
   repeat' (first | refine sq ?_ | refine stp ?_ | refine blk_o (by decide) ?_ | (apply cb;(focus (simp (disch:=(first | omega | (simp;omega))) only [go_sem,w64];try exact rfl));refine cok ?_) | (refine rgT ?_;intro K hK) | (refine dA ?_;intro K hK) | (with_reducible refine hK _ ?_;clear hK K) | (refine stq ?_;simp (disch:=(first | omega | (simp;omega))) only [go_sem,w64]) | refine as1 ?_ | fail)
   (refine endA (r:=.tup [.d (ratsD F.pt),.d (.agg [.int F.val.num,.int F.val.den]),.d (.bool F.found)]) ?_)
   exact ⟨rfl,rfl⟩
end
section
variable (A:List (List RatD)) (B Cc:List RatD) (hA:A.length≤1048576) (hr:∀ i,i<A.length→(mx A i).length≤1048576) (hB:B.length≤1048576) (hC:Cc.length≤1048576)
include hA hr hB hC
end
end Go.Proofs.YteiaofkgbdlpoaaDoor
namespace Go.Proofs.YteiaofkgbdlpoaaDoor
set_option linter.unusedSimpArgs false
set_option linter.unusedVariables false
open Go.RowKit
def cellsC (lo:Nat) (w:World):Nat→Nat→Prop:=fun b i=>lo≤b∧b<w.heap.size∧w.cell? ⟨b,i,none⟩ ≠ none
theorem no_tag {lo:Nat} {w:World} {b:Nat}:¬ Tag (cellsC lo w) b:=by
 rintro ⟨N,h⟩
 have h0:=(h N (Nat.le_refl _)).2.1
 obtain ⟨o,ho⟩:∃ o,w.heap[b]? = some o:=⟨_,Array.getElem?_eq_getElem h0⟩
 cases o with
 | cells arr e fz =>
  have h1:=(h (N+arr.size) (by omega)).2.2
  simp only [World.cell?,ho] at h1
  simp at h1
 | _ =>
  have h1:=(h N (Nat.le_refl _)).2.2
  simp [World.cell?,ho] at h1
def Out (C0:Nat→Nat→Prop) (X:AV) (w:World) (e:Ending) (w':World):Prop :=
 ∃ v G',e=.returned v∧CV G' w' X v∧Below w.heap.size w w'∧(∀ b i,G'.C b i→b<w'.heap.size)∧(∀ b i,G'.C b i→b<w.heap.size→C0 b i)∧(∀ b i,G'.C b i→w.heap.size≤b→w'.frozen? ⟨b,i,none⟩=false)
theorem afn_calls {f:FuncId} {args:List AV} {X:AV} (h:AFn f args [] (fun r os=>r=X∧os=[])) {w:World} {C0:Nat→Nat→Prop} (hC0:∀ b i,C0 b i→b<w.heap.size) {vs:List Value} (hv:∀ G:Gh,G.C=C0→CVs G w args vs):Calls Tryd.prog f vs.toArray w (Out C0 X w):=by
 refine (h.2 w ⟨C0,fun _=>.slice none 0 0,fun _=>0,fun _=>0,fun _=>0⟩ vs (hv _ rfl) hC0 (fun i l hl=>by simp at hl) (fun i j hi=>absurd hi (Nat.not_lt_zero _))).mono ?_
 rintro e w' ⟨v,r,os,G',rfl,hp⟩
 obtain ⟨rfl,rfl⟩:=hp.post
 exact ⟨v,G',rfl,hp.res,⟨hp.fr.os,hp.fr.tape,hp.fr.output,hp.fr.size,fun k hk=>hp.fr.block k hk (fun ⟨i,hi,_⟩=>absurd hi (Nat.not_lt_zero _))⟩,hp.cs,hp.lc,hp.uf⟩
end Go.Proofs.YteiaofkgbdlpoaaDoor
namespace Go.Proofs.YteiaofkgbdlpoaaDoor
set_option linter.unusedSimpArgs false
set_option linter.unusedVariables false
open Go.RowKit
abbrev ratV1 (n d:Int):Value:=.agg #[.int .i64 n,.int .i64 d]
set_option maxHeartbeats 800000 in
theorem eqRat1 (n d:Int) (w:World):Calls Tryd.prog 18 #[ratV1 n d,ratV1 n d] w (Leaves w (.bool true)):=by
 have h1:((n:Int) != n)=false:=by simp
 have h2:((d:Int) != d)=false:=by simp
 go_enter Tryd.func18,Tryd.ntmps18
 go_wp2
 go_ret
 exact ⟨rfl,(by repeat (first | with_reducible assumption | with_reducible exact Below.refl _ _ | with_reducible refine below_drewN ?_ _ | with_reducible refine below_drew1 ?_ | with_reducible refine Below.al ?_ (by first | with_reducible exact Nat.le_refl _ | omega | (simp;done) | (simp;omega) | exact Nat.le_refl _) _ | with_reducible refine Below.setCell ?_ (by first | with_reducible exact Nat.le_refl _ | omega | (simp;done) | (simp;omega) | exact Nat.le_refl _) _ | assumption | exact Below.refl _ _ | refine below_drewN ?_ _ | refine below_drew1 ?_ | refine Below.al ?_ (by first | with_reducible exact Nat.le_refl _ | omega | (simp;done) | (simp;omega) | exact Nat.le_refl _) _ | refine Below.setCell ?_ (by first | with_reducible exact Nat.le_refl _ | omega | (simp;done) | (simp;omega) | exact Nat.le_refl _) _))⟩
set_option maxHeartbeats 1600000 in
theorem eqRats {fz fz':Bool} {lo hi lo' hi':Nat} (a a':Option Addr) (n c n' c':Nat) (xs:List RatD) (w:World) (hI:RatsA fz lo hi w a n c xs) (hh:hi≤w.heap.size) (hJ:RatsA fz' lo' hi' w a' n' c' xs) (hh':hi'≤w.heap.size) :
 Calls Tryd.prog 17 #[.slice a n c,.slice a' n' c'] w (Leaves w (.bool true)):=by
 have hl:=hI.len
 have hl':=hJ.len
 have hs:=hI.small
 obtain rfl:n=n':=by omega
 clear hl hl'
 have hb:((n:Int) != (n:Int))=false:=by simp
 go_enter Tryd.func17,Tryd.ntmps17
 go_wp2_with fail
 go_loopw [5] (fun i wr=>∃ k:Nat,i=.int .i64 k∧k≤n∧Hid (Below w.heap.size w wr)) (fun i _=>n - (intOf i).toNat)
 case atStart=>exact ⟨0,rfl,by omega,hid (Below.refl _ _)⟩
 case round =>
  obtain ⟨k,rfl,hk,HB⟩:=hrel
  by_cases hlt:k<n
  ·have hzr:=HB.out.size
   have hIr:=beRats hI HB.out hh
   have hJr:=beRats hJ HB.out hh'
   obtain ⟨b,off,rfl⟩:=ratsSome hIr (by omega)
   obtain ⟨g1,g2,_,_,d0,d1,_⟩:=ratsAt hIr hlt
   obtain ⟨b',off',rfl⟩:=ratsSome hJr (by omega)
   obtain ⟨g1',g2',_,_,d0',d1',_⟩:=ratsAt hJr hlt
   have e0:∀ x:Later wr.heap.size wr,x.w.cell? ⟨b,off+k*2,none⟩=some (.int .i64 (qx xs k).num):=fun x=>x.cell d0 (by omega)
   have e1:∀ x:Later wr.heap.size wr,x.w.cell? ⟨b,off+k*2+1,none⟩=some (.int .i64 (qx xs k).den):=fun x=>x.cell d1 (by omega)
   have e0':∀ x:Later wr.heap.size wr,x.w.cell? ⟨b',off'+k*2,none⟩=some (.int .i64 (qx xs k).num):=fun x=>x.cell d0' (by omega)
   have e1':∀ x:Later wr.heap.size wr,x.w.cell? ⟨b',off'+k*2+1,none⟩=some (.int .i64 (qx xs k).den):=fun x=>x.cell d1' (by omega)
   have HC:=hid (fun x:Later wr.heap.size wr=>later_of x (Nat.le_refl _) (eqRat1 (qx xs k).num (qx xs k).den x.w))
   have HI:=hid (And.intro (And.intro hI hIr) (And.intro (And.intro hJ hJr) (And.intro (And.intro d0 d1) (And.intro d0' d1'))));clear hI hIr hJ hJr d0 d1 d0' d1'
   go_wp2_with fail
   refine wp_region_later (B:=wr.heap.size) (w0:=wr) (by kernel_rfl) (by kernel_rfl) (Below.refl _ _) ?_
   repeat (any_goals (first | go_big_quiet_step (((go_at_call 18;exact HC.out _))) | quiet_step (((go_at_call 18;exact HC.out _)))))
   refine wpQuiet_nil ?_
   intro _ hw'
   obtain ⟨nq,hw''⟩:=hw'
   subst hw''
   have HQ:=hid nq.be
   generalize nq.w=wq at *
   have HB2:=hid (Below.calm HB.out HQ.out)
   go_wp2_with fail
   go_roundw
   case rel=>exact ⟨k+1,by go_num,by omega,HB2⟩
   case measure=>simp [intOf];omega
  ·go_wp2_with fail
   go_ret
   exact ⟨rfl,HB.out⟩
def RatsTo (g:Nat) (w:World) (n:Nat) (xs:List RatD) (k:Nat):Prop :=
 ∃ vs,w.ownsRow g 43 2 (.slice (some ⟨g,0,none⟩) n n) n vs∧∀ i,i<k→vs[i*2]? = some (.int .i64 (qx xs i).num)∧vs[i*2+1]? = some (.int .i64 (qx xs i).den)
theorem RatsTo.put {g:Nat} {w w1:World} {n:Nat} {xs:List RatD} {k:Nat} (h:RatsTo g w n xs k) (hk:k<n) (hg:g<w.heap.size) (hb:Below w.heap.size w w1) :
 RatsTo g ((w1.setCell ⟨g,k*2,none⟩ (.int .i64 (qx xs k).num)).setCell ⟨g,k*2+1,none⟩ (.int .i64 (qx xs k).den)) n xs (k+1)∧Below g w ((w1.setCell ⟨g,k*2,none⟩ (.int .i64 (qx xs k).num)).setCell ⟨g,k*2+1,none⟩ (.int .i64 (qx xs k).den)) ∧
  (∃ v0,w1.cell? ⟨g,k*2,none⟩=some v0)∧(∃ v0,w1.cell? ⟨g,k*2+1,none⟩=some v0)∧w1.frozen? ⟨g,k*2,none⟩=false∧w1.frozen? ⟨g,k*2+1,none⟩=false:=by
 obtain ⟨vs,ho,hv⟩:=h
 have hlen:vs.length=n*2:=ho.1
 have ho1:w1.ownsRow g 43 2 (.slice (some ⟨g,0,none⟩) n n) n vs:=ho.kept (row:=none) ⟨hb.os,hb.tape,hb.output,hb.size,fun k hk _=>hb.block k hk⟩ (.inr (by simp [Value.ownBlock]))
 obtain ⟨hs1,hs2⟩:=ho1.stored (k*2) (.int .i64 (qx xs k).num)
 obtain ⟨ht1,ht2⟩:=hs1.stored (k*2+1) (.int .i64 (qx xs k).den)
 have hbs:=hb.size
 refine ⟨⟨_,ht1,fun i hi=>?_⟩,?_,?_,?_,ho1.frozenAt _,ho1.frozenAt _⟩
 ·by_cases e:i=k
  ·subst e
   refine ⟨?_,?_⟩
   ·rw [List.getElem?_set_ne (by omega),List.getElem?_set_self (by omega)]
   ·rw [List.getElem?_set_self (by rw [List.length_set];omega)]
  ·obtain ⟨g1,g2⟩:=hv i (by omega)
   refine ⟨?_,?_⟩
   ·rw [List.getElem?_set_ne (by omega),List.getElem?_set_ne (by omega)];exact g1
   ·rw [List.getElem?_set_ne (by omega),List.getElem?_set_ne (by omega)];exact g2
 ·exact Below.setCell (Below.setCell (hb.mono (by omega)) (by dsimp only;omega) _) (by dsimp only;omega) _
 ·have:=ho1.cells (g:=g) rfl (k*2) (vs[k*2]'(by omega)) (by simp)
  rw [Addr.add_lit] at this;exact ⟨_,by simpa using this⟩
 ·have:=ho1.cells (g:=g) rfl (k*2+1) (vs[k*2+1]'(by omega)) (by simp)
  rw [Addr.add_lit] at this;exact ⟨_,by simpa using this⟩
def MatTo (g:Nat) (w:World) (n:Nat) (xss:List (List RatD)) (k:Nat):Prop :=
 ∃ vs,w.ownsRow g 28 1 (.slice (some ⟨g,0,none⟩) n n) n vs∧∀ i,i<k→∃ ra rn rc,vs[i]? = some (.slice ra rn rc)∧RatsA true (g+1) w.heap.size w ra rn rc (mx xss i)
theorem MatTo.put {g:Nat} {w w1:World} {n:Nat} {xss:List (List RatD)} {k:Nat} (h:MatTo g w n xss k) (hk:k<n) (hg:g<w.heap.size) (hb:Below w.heap.size w w1) {ra:Option Addr} {rn rc:Nat}
 (hr:RatsA true w.heap.size w1.heap.size w1 ra rn rc (mx xss k)):MatTo g (w1.setCell ⟨g,k,none⟩ (.slice ra rn rc)) n xss (k+1)∧Below g w (w1.setCell ⟨g,k,none⟩ (.slice ra rn rc)) ∧
  (∃ v0,w1.cell? ⟨g,k,none⟩=some v0)∧w1.frozen? ⟨g,k,none⟩=false:=by
 obtain ⟨vs,ho,hv⟩:=h
 have hlen:vs.length=n:=by have:=ho.1;omega
 have ho1:w1.ownsRow g 28 1 (.slice (some ⟨g,0,none⟩) n n) n vs:=ho.kept (row:=none) ⟨hb.os,hb.tape,hb.output,hb.size,fun k hk _=>hb.block k hk⟩ (.inr (by simp [Value.ownBlock]))
 obtain ⟨hs1,hs2⟩:=ho1.stored k (.slice ra rn rc)
 have hsz:(w1.setCell ⟨g,k,none⟩ (.slice ra rn rc)).heap.size=w1.heap.size:=by simp [World.setCell]
 have hbs:=hb.size
 have hset:Keeps (g+1) w1.heap.size w1 (w1.setCell ⟨g,k,none⟩ (.slice ra rn rc)):=fun j h1 h2=>hs2.block j h2 (by intro e;cases e;omega)
 refine ⟨⟨_,hs1,fun i hi=>?_⟩,(hb.mono (by omega)).grown hs2 (by omega) (fun j hj=>by cases hj;exact Nat.le_refl _),?_,ho1.frozenAt k⟩
 ·by_cases e:i=k
  ·subst e
   exact ⟨ra,rn,rc,by simp [hlen,hk],by rw [hsz];exact kpRats (wdRats hr (by omega)) hset⟩
  ·obtain ⟨ra',rn',rc',g1,g2⟩:=hv i (by omega)
   exact ⟨ra',rn',rc',by rw [List.getElem?_set_ne (by omega)];exact g1,by
    rw [hsz];exact kpRats (hgRats (kpRats g2 (Keeps.of_below hb (Nat.le_refl _))) hbs) hset⟩
 ·have:=ho1.cells (g:=g) rfl k vs[k] (by simp [hlen,hk])
  rw [Addr.add_lit] at this;exact ⟨_,by simpa using this⟩
end Go.Proofs.YteiaofkgbdlpoaaDoor
namespace Go.Proofs.YteiaofkgbdlpoaaDoor
set_option linter.unusedSimpArgs false
set_option linter.unusedVariables false
open Go.RowKit
end Go.Proofs.YteiaofkgbdlpoaaDoor
namespace Go.Proofs.YteiaofkgbdlpoaaDoor
set_option linter.unusedSimpArgs false
set_option linter.unusedVariables false
open Go.RowKit
def ValsA (lo hi:Nat) (w:World) (a:Option Addr) (n c:Nat) (vs:List Value):Prop :=
 vs.length=n∧n≤c∧c≤maxLen∧(∀ u∈vs,u.oneCell'=true)∧(0<n→∃ b off,a=some ⟨b,off,none⟩∧lo≤b∧b<hi∧∀ i u,vs[i]? = some u→w.cell? ⟨b,off+i,none⟩=some u)∧(a=none→c=0)
section
variable {lo hi:Nat} {w w':World} {a:Option Addr} {n c:Nat} {vs:List Value}
theorem ValsA.len (h:ValsA lo hi w a n c vs):vs.length=n:=h.1
theorem ValsA.small (h:ValsA lo hi w a n c vs):n≤9223372036854775807:=by
 have h1:=h.2.1;have h2:=h.2.2.1;unfold maxLen at h2;omega
theorem ValsA.keep (h:ValsA lo hi w a n c vs) (hk:Keeps lo hi w w'):ValsA lo hi w' a n c vs:=by
 obtain ⟨h1,h2,h3,h4,h5,h6⟩:=h
 refine ⟨h1,h2,h3,h4,fun hn=>?_,h6⟩
 obtain ⟨b,off,ha,hl,hb,hc⟩:=h5 hn
 exact ⟨b,off,ha,hl,hb,fun i u hu=>by rw [World.cell?_of_block (w:=w) (hk b hl hb)];exact hc i u hu⟩
theorem ValsA.wide {lo' hi':Nat} (h:ValsA lo hi w a n c vs) (h1:lo'≤lo) (h2:hi≤hi'):ValsA lo' hi' w a n c vs:=by
 obtain ⟨g1,g2,g3,g4,g5,g6⟩:=h
 refine ⟨g1,g2,g3,g4,fun hn=>?_,g6⟩
 obtain ⟨b,off,ha,hl,hb,hc⟩:=g5 hn
 exact ⟨b,off,ha,by omega,by omega,hc⟩
theorem ValsA.drewN (h:ValsA lo hi w a n c vs) (k:Nat):ValsA lo hi (w.drewN k) a n c vs:=h
theorem ValsA.open (h:ValsA lo hi w a n c vs) (hn:0<n):∃ b off,a=some ⟨b,off,none⟩∧lo≤b∧b<hi∧∀ i u,vs[i]? = some u→w.cell? ⟨b,off+i,none⟩=some u:=h.2.2.2.2.1 hn
end
def OwnV (e:TypeId) (base:Nat) (w:World) (a:Option Addr) (n c:Nat) (vs:List Value):Prop:=w.ownsRow base e 1 (.slice a n c) n vs∧∀ u∈vs,u.oneCell'=true
theorem OwnV.len {e:TypeId} {base:Nat} {w:World} {a:Option Addr} {n c:Nat} {vs:List Value} (h:OwnV e base w a n c vs):vs.length=n:=by
 have:=h.1.1;omega
theorem OwnV.vals {e:TypeId} {base:Nat} {w:World} {a:Option Addr} {n c:Nat} {vs:List Value} (h:OwnV e base w a n c vs):ValsA base w.heap.size w a n c vs:=by
 have hlen:=h.len
 obtain ⟨ho,h1c⟩:=h
 have ho':=ho
 obtain ⟨h1,h2⟩:=ho
 rcases h2 with ⟨h2,h3⟩ | ⟨g,cap,cur,hv,hb,hg,hnc,hcm,hcs,htake⟩
 ·simp only [Value.slice.injEq] at h2
  obtain ⟨rfl,rfl,rfl⟩:=h2
  exact ⟨hlen,Nat.zero_le _,by simp [maxLen],h1c,fun h=>by omega,fun _=>rfl⟩
 ·simp only [Value.slice.injEq] at hv
  obtain ⟨rfl,_,rfl⟩:=hv
  refine ⟨hlen,hnc,hcm,h1c,fun _=>⟨g,0,rfl,hb,(Array.getElem?_eq_some_iff.1 hg).1,fun i u hu=>?_⟩,fun h=>(by cases h)⟩
  have h5:=ho'.cells (g:=g) rfl i u hu
  rwa [Addr.add_lit] at h5
theorem OwnV.low {e:TypeId} {base base':Nat} {w:World} {a:Option Addr} {n c:Nat} {vs:List Value} (h:OwnV e base w a n c vs) (hb:base'≤base):OwnV e base' w a n c vs:=by
 obtain ⟨⟨h1,h2⟩,h64⟩:=h
 refine ⟨⟨h1,?_⟩,h64⟩
 rcases h2 with h2 | ⟨g,cap,cur,hv,hb',rest⟩
 ·exact .inl h2
 ·exact .inr ⟨g,cap,cur,hv,by omega,rest⟩
theorem OwnV.keep {e:TypeId} {base:Nat} {w w':World} {a:Option Addr} {n c:Nat} {vs:List Value} (h:OwnV e base w a n c vs) (hk:Keeps base w.heap.size w w'):OwnV e base w' a n c vs:=by
 obtain ⟨⟨h1,h2⟩,h64⟩:=h
 refine ⟨⟨h1,?_⟩,h64⟩
 rcases h2 with h2 | ⟨g,cap,cur,hv,hb,hg,rest⟩
 ·exact .inl h2
 ·exact .inr ⟨g,cap,cur,hv,hb,by rw [hk g hb (Array.getElem?_eq_some_iff.1 hg).1];exact hg,rest⟩
theorem OwnV.alloc {e:TypeId} {base:Nat} {w:World} {a:Option Addr} {n c:Nat} {vs:List Value} (h:OwnV e base w a n c vs) (o:Obj):OwnV e base (w.alloc o) a n c vs:=⟨h.1.alloc o,h.2⟩
theorem OwnV.drewN {e:TypeId} {base:Nat} {w:World} {a:Option Addr} {n c:Nat} {vs:List Value} (h:OwnV e base w a n c vs) (k:Nat):OwnV e base (w.drewN k) a n c vs:=h
structure Elem (t e:TypeId) (bytes:Nat):Prop where
 under:Tryd.prog.underlying t=some (.slice e)
 info:∃ i z,Tryd.prog.info? e=some i∧i.zero=some z∧i.size=1∧i.bytes=bytes∧z.cells.size=1
 small:bytes≤4096
end Go.Proofs.YteiaofkgbdlpoaaDoor
namespace Go.Proofs.YteiaofkgbdlpoaaDoor
set_option linter.unusedSimpArgs false
set_option linter.unusedVariables false
open Go.RowKit
abbrev RowP (α:Type):=Nat→Nat→World→Option Addr→Nat→Nat→α→Prop
structure RowPOK {α:Type} (Q:RowP α):Prop where
 keep:∀ {lo hi w w' a n c x},Q lo hi w a n c x→Keeps lo hi w w'→Q lo hi w' a n c x
 wide:∀ {lo hi lo' hi' w a n c x},Q lo hi w a n c x→lo'≤lo→hi≤hi'→Q lo' hi' w a n c x
def HeadI (w:World) (s t:Nat):Prop:=s<t→t=s+1∧∃ z:Int,w.cell? ⟨s,0,none⟩=some (.int .i64 z)
theorem HeadI.keep {w w':World} {s t lo hi:Nat} (h:HeadI w s t) (hk:Keeps lo hi w w') (h1:lo≤s) (h2:t≤hi):HeadI w' s t:=fun hlt=>by
 obtain ⟨g1,z,g2⟩:=h hlt
 exact ⟨g1,z,by rw [World.cell?_of_block (w:=w) (hk s h1 (by omega))];exact g2⟩
def SepV {α:Type} (Q:RowP α) (lo hi:Nat) (w:World) (vs:List Value) (xss:List α):Prop :=
 vs.length=xss.length∧∃ s t:Nat→Nat,(∀ i,i<xss.length→lo≤s i∧t i≤hi∧HeadI w (s i) (t i)∧∃ ra rn rc x,xss[i]? = some x∧vs[i]? = some (.slice ra rn rc)∧Q (s i) (t i) w ra rn rc x) ∧
  ∀ i j,i<xss.length→j<xss.length→i ≠ j→t i≤s j∨t j≤s i
section
variable {α:Type} {Q:RowP α} {lo hi lo' hi':Nat} {w w':World} {vs:List Value} {xss:List α}
theorem SepV.nil (Q:RowP α) (lo hi:Nat) (w:World):SepV Q lo hi w [] []:=⟨rfl,fun _=>0,fun _=>0,fun i hi=>by simp at hi,fun i j hi=>by simp at hi⟩
theorem SepV.keep (ok:RowPOK Q) (h:SepV Q lo hi w vs xss) (hk:Keeps lo hi w w'):SepV Q lo hi w' vs xss:=by
 obtain ⟨h1,s,t,h2,h3⟩:=h
 refine ⟨h1,s,t,fun i hi=>?_,h3⟩
 obtain ⟨g1,g2,g0,ra,rn,rc,x,g3,g4,g5⟩:=h2 i hi
 exact ⟨g1,g2,g0.keep hk g1 g2,ra,rn,rc,x,g3,g4,ok.keep g5 (hk.mono g1 g2)⟩
theorem SepV.wide (h:SepV Q lo hi w vs xss) (hl:lo'≤lo) (hh:hi≤hi'):SepV Q lo' hi' w vs xss:=by
 obtain ⟨h1,s,t,h2,h3⟩:=h
 refine ⟨h1,s,t,fun i hi=>?_,h3⟩
 obtain ⟨g1,g2,g⟩:=h2 i hi
 exact ⟨by omega,by omega,g⟩
theorem SepV.snoc (h:SepV Q lo hi w vs xss) {s' t':Nat} {ra:Option Addr} {rn rc:Nat} {x:α} (hx:Q s' t' w ra rn rc x) (hd:HeadI w s' t') (hl:lo≤s') (hs:hi≤s') (ht:t'≤hi') (hh:hi≤hi'):SepV Q lo hi' w (vs ++ [.slice ra rn rc]) (xss ++ [x]):=by
 obtain ⟨h1,s,t,h2,h3⟩:=h
 refine ⟨by simp [h1],fun i=>if i=xss.length then s' else s i,fun i=>if i=xss.length then t' else t i,fun i hi=>?_,fun i j hi hj hij=>?_⟩
 ·by_cases e:i=xss.length
  ·subst e
   simp only [if_true]
   exact ⟨hl,ht,hd,ra,rn,rc,x,by simp,by rw [← h1];simp,hx⟩
  ·simp only [if_neg e]
   have hi':i<xss.length:=by simp at hi;omega
   obtain ⟨g1,g2,g0,ra',rn',rc',y,g3,g4,g5⟩:=h2 i hi'
   exact ⟨g1,by omega,g0,ra',rn',rc',y,by rw [List.getElem?_append_left hi'];exact g3,by rw [List.getElem?_append_left (by omega)];exact g4,g5⟩
 ·simp at hi hj
  by_cases e:i=xss.length
  ·have e':j ≠ xss.length:=by omega
   simp only [if_pos e,if_neg e']
   have:=h2 j (by omega)
   omega
  ·by_cases e':j=xss.length
   ·simp only [if_neg e,if_pos e']
    have:=h2 i (by omega)
    omega
   ·simp only [if_neg e,if_neg e']
    exact h3 i j (by omega) (by omega) hij
theorem SepV.one (h:SepV Q lo hi w vs xss):∀ u∈vs,u.oneCell'=true:=by
 obtain ⟨h1,s,t,h2,_⟩:=h
 intro u hu
 obtain ⟨i,hi,rfl⟩:=List.getElem_of_mem hu
 obtain ⟨_,_,_,ra,rn,rc,x,_,g4,_⟩:=h2 i (by omega)
 rw [List.getElem?_eq_getElem hi] at g4
 rw [Option.some.inj g4];rfl
theorem SepV.grown (ok:RowPOK Q) {e:TypeId} {base:Nat} {a:Option Addr} {n c:Nat} (h:SepV Q lo hi w vs xss) (ho:OwnV e base w a n c vs) (hg:w.grownBy w' (Value.slice a n c).ownBlock) (hh:hi≤w.heap.size):SepV Q lo hi w' vs xss:=by
 obtain ⟨h1,s,t,h2,h3⟩:=h
 have hlen:=ho.len
 have key:∀ i,i<xss.length→Keeps (s i) (t i) w w':=by
  intro i hi k hk1 hk2
  obtain ⟨g1,g2,g0,_⟩:=h2 i hi
  obtain ⟨ht,z,hz⟩:=g0 (by omega)
  obtain rfl:k=s i:=by omega
  refine hg.block _ (by omega) ?_
  intro e'
  have hn:0<n:=by omega
  obtain ⟨b,off,hb,_,_,hc⟩:=ho.vals.open hn
  have h0:=ho.1.2
  rcases h0 with ⟨h0,_⟩ | ⟨g,cap,cur,hv,_⟩
  ·simp only [Value.slice.injEq] at h0;omega
  ·simp only [Value.slice.injEq] at hv
   obtain ⟨rfl,_,rfl⟩:=hv
   simp only [Option.some.injEq,Addr.mk.injEq,and_true] at hb
   obtain ⟨rfl,rfl⟩:=hb
   simp only [Value.ownBlock,Option.some.injEq] at e'
   obtain ⟨_,_,_,ra,rn,rc,x,_,f4,_⟩:=h2 0 (by omega)
   have:=hc 0 _ f4
   rw [← e',Nat.zero_add,hz] at this
   cases this
 refine ⟨h1,s,t,fun i hi=>?_,h3⟩
 obtain ⟨g1,g2,g0,ra,rn,rc,x,g3,g4,g5⟩:=h2 i hi
 exact ⟨g1,g2,g0.keep (key i hi) (Nat.le_refl _) (Nat.le_refl _),ra,rn,rc,x,g3,g4,ok.keep g5 (key i hi)⟩
end
def SepA {α:Type} (Q:RowP α) (lo hi:Nat) (w:World) (a:Option Addr) (n c:Nat) (xss:List α):Prop :=
 xss.length=n∧n≤c∧c≤maxLen∧(0<n→∃ b off,a=some ⟨b,off,none⟩∧lo≤b∧b<hi∧∃ vs,SepV Q lo hi w vs xss∧∀ i u,vs[i]? = some u→w.cell? ⟨b,off+i,none⟩=some u∧w.frozen? ⟨b,off+i,none⟩=false)∧(a=none→c=0)
section
variable {α:Type} {Q:RowP α} {lo hi lo' hi':Nat} {w w':World} {a:Option Addr} {n c:Nat} {xss:List α}
theorem SepA.len (h:SepA Q lo hi w a n c xss):xss.length=n:=h.1
theorem SepA.small (h:SepA Q lo hi w a n c xss):n≤9223372036854775807:=by
 have h1:=h.2.1;have h2:=h.2.2.1;unfold maxLen at h2;omega
theorem SepA.keep (ok:RowPOK Q) (h:SepA Q lo hi w a n c xss) (hk:Keeps lo hi w w'):SepA Q lo hi w' a n c xss:=by
 obtain ⟨h1,h2,h3,h4,h5⟩:=h
 refine ⟨h1,h2,h3,fun hn=>?_,h5⟩
 obtain ⟨b,off,ha,hl,hb,vs,hv,hc⟩:=h4 hn
 refine ⟨b,off,ha,hl,hb,vs,hv.keep ok hk,fun i u hu=>?_⟩
 rw [World.cell?_of_block (w:=w) (hk b hl hb),World.frozen?_of_block (w:=w) (hk b hl hb)];exact hc i u hu
theorem SepA.wide (h:SepA Q lo hi w a n c xss) (h1:lo'≤lo) (h2:hi≤hi'):SepA Q lo' hi' w a n c xss:=by
 obtain ⟨g1,g2,g3,g4,g5⟩:=h
 refine ⟨g1,g2,g3,fun hn=>?_,g5⟩
 obtain ⟨b,off,ha,hl,hb,vs,hv,hc⟩:=g4 hn
 exact ⟨b,off,ha,by omega,by omega,vs,hv.wide h1 h2,hc⟩
theorem SepA.sl {R:Rep α} (hR:∀ {lo hi w ra rn rc x},Q lo hi w ra rn rc x→R true lo hi w [.slice ra rn rc] x) (ok:RepOK R) (h:SepA Q lo hi w a n c xss):SlA 1 R true lo hi w a n c xss:=by
 obtain ⟨h1,h2,h3,h4,h5⟩:=h
 refine ⟨h1,h2,h3,fun hn=>?_,h5⟩
 obtain ⟨b,off,ha,hl,hb,vs,hv,hc⟩:=h4 hn
 refine ⟨b,off,ha,hl,hb,fun i hi=>?_⟩
 obtain ⟨_,s,t,g1,_⟩:=hv
 obtain ⟨e1,e2,_,ra,rn,rc,x,e3,e4,e5⟩:=g1 i (by omega)
 refine ⟨[.slice ra rn rc],x,rfl,e3,ok.wide (hR e5) e1 e2,fun j hj=>?_⟩
 obtain rfl:j=0:=by omega
 have:=hc i _ e4
 exact ⟨by simpa using this.1,fun _=>by simpa using this.2⟩
theorem SepA.row (ok:RowPOK Q) {b off:Nat} (h:SepA Q lo hi w (some ⟨b,off,none⟩) n c xss) {i:Nat} (hi':i<n) {x:α} (hx:xss[i]? = some x) :
 ∃ s t ra rn rc,lo≤s∧t≤hi∧w.cell? ⟨b,off+i,none⟩=some (.slice ra rn rc)∧Q s t w ra rn rc x ∧
  ∀ w' y,Marked s t w w'→Q s t w' ra rn rc y→SepA Q lo hi w' (some ⟨b,off,none⟩) n c (xss.set i y):=by
 obtain ⟨h1,h2,h3,h4,h5⟩:=h
 obtain ⟨b',off',ha,hl,hb,vs,hv,hc⟩:=h4 (by omega)
 simp only [Option.some.injEq,Addr.mk.injEq,and_true] at ha
 obtain ⟨rfl,rfl⟩:=ha
 obtain ⟨k1,s,t,g1,g2⟩:=hv
 obtain ⟨e1,e2,e0,ra,rn,rc,x',e3,e4,e5⟩:=g1 i (by omega)
 rw [hx] at e3;cases e3
 refine ⟨s i,t i,ra,rn,rc,e1,e2,(hc i _ e4).1,e5,fun w' y hm hy=>?_⟩
 refine ⟨by simpa using h1,h2,h3,fun _=>⟨b,off,rfl,hl,hb,vs,⟨by simpa using k1,s,t,fun j hj=>?_,fun j k hj hk=>by simp at hj hk;exact g2 j k hj hk⟩,fun j u hu=>?_⟩,h5⟩
 ·simp at hj
  by_cases e:j=i
  ·subst e
   refine ⟨e1,e2,?_,ra,rn,rc,y,by rw [List.getElem?_set_self (by omega)],e4,hy⟩
   intro hlt
   obtain ⟨k3,z,k4⟩:=e0 hlt
   obtain ⟨v',q1,q2⟩:=hm.cell _ _ k4
   rcases q2 with rfl | ⟨_,z',_,rfl,_⟩
   ·exact ⟨k3,z,q1⟩
   ·exact ⟨k3,z',q1⟩
  ·obtain ⟨f1,f2,f0,ra',rn',rc',z,f3,f4,f5⟩:=g1 j hj
   have hkk:=hm.keeps (lo':=s j) (hi':=t j) (by have:=g2 j i hj (by omega) e;omega)
   exact ⟨f1,f2,f0.keep hkk (Nat.le_refl _) (Nat.le_refl _),ra',rn',rc',z,by rw [List.getElem?_set_ne (by omega)];exact f3,f4,ok.keep f5 hkk⟩
 ·obtain ⟨g3,g4⟩:=hc j u hu
  have hsl:∃ ra rn rc,u=.slice ra rn rc:=by
   have hj:j<xss.length:=by rw [← k1];exact (List.getElem?_eq_some_iff.1 hu).1
   obtain ⟨_,_,_,ra',rn',rc',_,_,f4,_⟩:=g1 j hj
   rw [hu] at f4;cases f4;exact ⟨_,_,_,rfl⟩
  obtain ⟨ra',rn',rc',rfl⟩:=hsl
  obtain ⟨v',q1,q2⟩:=hm.cell _ _ g3
  refine ⟨?_,by rw [hm.frz];exact g4⟩
  rcases q2 with rfl | ⟨_,_,h,_⟩
  ·exact q1
  ·cases h
end
theorem SepA.own {α:Type} {Q:RowP α} {e:TypeId} {base:Nat} {w:World} {a:Option Addr} {n c:Nat} {vs:List Value} {xss:List α} (h:OwnV e base w a n c vs) (hv:SepV Q base w.heap.size w vs xss):SepA Q base w.heap.size w a n c xss:=by
 have hlen:=h.len
 obtain ⟨h1,h2⟩:=h.1
 rcases h2 with ⟨h2,h3⟩ | ⟨g,cap,cur,hvv,hb,hg,hnc,hcm,hcs,htake⟩
 ·simp only [Value.slice.injEq] at h2
  obtain ⟨rfl,rfl,rfl⟩:=h2
  exact ⟨by rw [← hv.1];exact hlen,Nat.le_refl _,by simp [maxLen],fun h=>by omega,fun _=>rfl⟩
 ·have ho':=h.1
  simp only [Value.slice.injEq] at hvv
  obtain ⟨rfl,_,rfl⟩:=hvv
  refine ⟨by rw [← hv.1];exact hlen,hnc,hcm,fun _=>⟨g,0,rfl,hb,(Array.getElem?_eq_some_iff.1 hg).1,vs,hv,fun i u hu=>⟨?_,?_⟩⟩,fun h=>(by cases h)⟩
  ·have h5:=ho'.cells (g:=g) rfl i u hu
   rwa [Addr.add_lit] at h5
  ·exact frozen_of_row w g (0+i) cur _ hg
theorem Own.head {base:Nat} {w:World} {a:Option Addr} {n c:Nat} {xs:List Int} (h:Own base w a n c xs) (hb:base≤w.heap.size):∃ s t,base≤s∧t≤w.heap.size∧IntsA true s t w a n c xs∧HeadI w s t:=by
 have hi:=h.ints
 by_cases hn:0<n
 ·rcases h.1.2 with ⟨h2,h3⟩ | ⟨g,cap,cur,hv,hbg,hg,_⟩
  ·simp only [Value.slice.injEq] at h2;omega
  ·simp only [Value.slice.injEq] at hv
   obtain ⟨rfl,_,rfl⟩:=hv
   obtain ⟨b,off,ha,_,_,hc,hf⟩:=hi.open hn
   simp only [Option.some.injEq,Addr.mk.injEq,and_true] at ha
   obtain ⟨rfl,rfl⟩:=ha
   have hlt:g<w.heap.size:=(Array.getElem?_eq_some_iff.1 hg).1
   exact ⟨g,g+1,hbg,hlt,⟨hi.1,hi.2.1,hi.2.2.1,hi.2.2.2.1,fun _=>⟨g,0,rfl,Nat.le_refl _,by omega,fun i hi=>⟨hc i hi,fun hz=>hf hz i hi⟩⟩,fun h=>(by cases h)⟩,fun _=>⟨rfl,_,hc 0 hn⟩⟩
 ·exact ⟨base,base,Nat.le_refl _,hb,⟨hi.1,hi.2.1,hi.2.2.1,hi.2.2.2.1,fun h=>absurd h hn,hi.2.2.2.2.2⟩,fun h=>by omega⟩
end Go.Proofs.YteiaofkgbdlpoaaDoor
