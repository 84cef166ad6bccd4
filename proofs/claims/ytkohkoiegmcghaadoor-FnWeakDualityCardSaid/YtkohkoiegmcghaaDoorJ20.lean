/- Lemmas for the proof of FnCoverDuality, part 20 of 25: no condition of their own. -/
import Derived.Test.YtkohkoiegmcghaaDoorJ19
namespace Go.Proofs.YtkohkoiegmcghaaDoor
set_option linter.unusedSimpArgs false
set_option linter.unusedVariables false
attribute [local go_sem ↓] reduceIte
attribute [local go_sem] Nat.reduceEqDiff Nat.reduceLT Nat.reduceAdd Nat.reduceLeDiff Nat.reduceMul Nat.reduceBEq Nat.reduceSub reduceCtorEq Int.reduceLE Int.reduceNeg Int.reduceLT
open Go.RowKit
set_option maxHeartbeats 1000000 in
theorem implSumA (l:List RatD) (hl:l.length≤1048576):AFn 13 [.d (ratsD l)] [] (fun r os=>r=ansQ (sumF l)∧os=[]):=by
 refine afn_of (rv:=[.cell 2 33,.tmp 3]) tyT_ok Tryd.func13 rfl (by decide +kernel) Tryd.ntmps13 rfl (by simp) ?_
 have hlm:(l.map ratDV).length=l.length:=List.length_map ..
 repeat' (first | refine sq ?_ | refine stp ?_ | refine blk_o (by decide) ?_ | (apply cb;(focus (simp (disch:=(first | omega | (simp;omega))) only [go_sem,w64,ratsD,hlm];try exact rfl));refine cok ?_) | (refine rgT ?_;intro K hK) | (refine dA ?_;intro K hK) | (with_reducible refine hK _ ?_;clear hK K) | (refine stq ?_;simp (disch:=(first | omega | (simp;omega))) only [go_sem,w64,ratsD,hlm]) | refine as1 ?_ | fail)
 refine awp_loopw (fun mm s=>∃ k x,mm=l.length - k∧k≤l.length∧sumTo l k=some x∧s=mkS [(2,.ptr 2 0),(4,.ptr 4 0),(10,.d (ratsD l)),(11,.d (.int (l.length:Nat))),(12,.d (.int (k:Nat)))] [(2,[.d (.int 0),.d (.int 0)]),(4,[.d (.int x.num),.d (.int x.den)])]) ?_ ?_
 ·refine ⟨_,_,?_,0,⟨0,1⟩,rfl,Nat.zero_le _,rfl,rfl⟩
  (refine sle_mk ?_ ?_ <;> simp (disch:=(first | omega | (simp;omega))) only [go_sem,w64,ratsD] <;> exact leafs)
 ·rintro mm s ⟨k,x,rfl,hk,hx,rfl⟩
  repeat' (first | refine sq ?_ | refine stp ?_ | refine blk_o (by decide) ?_ | (apply cb;(focus (simp (disch:=(first | omega | (simp;omega))) only [go_sem,w64,ratsD,hlm];try exact rfl));refine cok ?_) | (refine rgT ?_;intro K hK) | (refine dA ?_;intro K hK) | (with_reducible refine hK _ ?_;clear hK K) | (refine stq ?_;simp (disch:=(first | omega | (simp;omega))) only [go_sem,w64,ratsD,hlm]) | refine as1 ?_ | fail)
  refine awp_if (p:=(k:Int)<(l.length:Nat)) (by simp (disch:=(first | omega | (simp;omega))) only [go_sem,w64,ratsD,hlm]) ?_ ?_ <;> intro hc
  ·have hk2:k<l.length:=by omega
   have g1:(l.map ratDV).getD k (.bool false)=ratDV (qx l k):=getDq hk2
   have w1:IntKind.i64.wrap ((k:Int)+1)=((k+1:Nat):Int):=by rw [w64 (by omega)];rfl
   have hs:sumTo l (k+1)=if (addQ x (qx l k)).2.2=true then some (rq (addQ x (qx l k))) else none:=by simp only [sumTo,hx]
   repeat' (first | refine sq ?_ | refine stp ?_ | refine blk_o (by decide) ?_ | (apply cb;(focus (simp (disch:=(first | omega | (simp;omega))) only [go_sem,w64,ratsD,g1,ratDV,hlm];try exact rfl));refine cok ?_) | (refine rgT ?_;intro K hK) | (refine dA ?_;intro K hK) | (with_reducible refine hK _ ?_;clear hK K) | (refine stq ?_;simp (disch:=(first | omega | (simp;omega))) only [go_sem,w64,ratsD,g1,ratDV,hlm]) | refine as1 ?_ | fail)
   (first | refine callA (implAddA x (qx l k)) ?_ | refine callD (implAddA x (qx l k)) ?_ | refine callE (implAddA x (qx l k)) ?_ | refine callF (implAddA x (qx l k)) ?_ ?_)
   generalize addQ x (qx l k)=q at hs ⊢
   cases h2:q.2.2 with
   | false =>
    have hn:sumTo l (k+1)=none:=by rw [hs,if_neg (by rw [h2];simp)]
    repeat' (first | refine sq ?_ | refine stp ?_ | refine blk_o (by decide) ?_ | (apply cb;(focus (simp (disch:=(first | omega | (simp;omega))) only [go_sem,w64,tupQ,ratDV,h2];try exact rfl));refine cok ?_) | (refine rgT ?_;intro K hK) | (refine dA ?_;intro K hK) | (with_reducible refine hK _ ?_;clear hK K) | (refine stq ?_;simp (disch:=(first | omega | (simp;omega))) only [go_sem,w64,tupQ,ratDV,h2]) | refine as1 ?_ | fail)
    (refine endA (r:=.tup [.d (.agg [.int 0,.int 0]),.d (.bool false)]) ?_)
    exact ⟨by unfold sumF;rw [sumTo_none hn _ (by omega)];rfl,rfl⟩
   | true =>
    repeat' (first | refine sq ?_ | refine stp ?_ | refine blk_o (by decide) ?_ | (apply cb;(focus (simp (disch:=(first | omega | (simp;omega))) only [go_sem,w64,tupQ,ratDV,h2,w1];try exact rfl));refine cok ?_) | (refine rgT ?_;intro K hK) | (refine dA ?_;intro K hK) | (with_reducible refine hK _ ?_;clear hK K) | (refine stq ?_;simp (disch:=(first | omega | (simp;omega))) only [go_sem,w64,tupQ,ratDV,h2,w1]) | refine as1 ?_ | fail)
    refine ⟨l.length - (k+1),_,by omega,?_,k+1,rq q,rfl,by omega,by rw [hs,if_pos h2],rfl⟩
    (refine sle_mk ?_ ?_ <;> simp (disch:=(first | omega | (simp;omega))) only [go_sem,w64,ratsD] <;> exact leafs)
  ·obtain rfl:k=l.length:=by omega
   repeat' (first | refine sq ?_ | refine stp ?_ | refine blk_o (by decide) ?_ | (apply cb;(focus (simp (disch:=(first | omega | (simp;omega))) only [go_sem,w64];try exact rfl));refine cok ?_) | (refine rgT ?_;intro K hK) | (refine dA ?_;intro K hK) | (with_reducible refine hK _ ?_;clear hK K) | (refine stq ?_;simp (disch:=(first | omega | (simp;omega))) only [go_sem,w64]) | refine as1 ?_ | fail)
   (refine endA (r:=.tup [.d (.agg [.int x.num,.int x.den]),.d (.bool true)]) ?_)
   exact ⟨by unfold sumF;rw [hx];rfl,rfl⟩
set_option maxHeartbeats 1000000 in
theorem implAdmA (l:List RatD) (hl:l.length≤1048576):AFn 29 [.d (ratsD l)] [] (fun r os=>r=.d (.bool (admB l))∧os=[]):=by
 refine afn_of (rv:=[.tmp 2]) tyT_ok Tryd.func29 rfl (by decide +kernel) Tryd.ntmps29 rfl (by simp) ?_
 have hlm:(l.map ratDV).length=l.length:=List.length_map ..
 repeat' (first | refine sq ?_ | refine stp ?_ | refine blk_o (by decide) ?_ | (apply cb;(focus (simp (disch:=(first | omega | (simp;omega))) only [go_sem,w64,ratsD,hlm];try exact rfl));refine cok ?_) | (refine rgT ?_;intro K hK) | (refine dA ?_;intro K hK) | (with_reducible refine hK _ ?_;clear hK K) | (refine stq ?_;simp (disch:=(first | omega | (simp;omega))) only [go_sem,w64,ratsD,hlm]) | refine as1 ?_ | fail)
 refine awp_loopw (fun mm s=>∃ k,mm=l.length - k∧k≤l.length∧(∀ i,i<k→adm1 (qx l i)=true)∧s=mkS [(5,.d (ratsD l)),(6,.d (.int (l.length:Nat))),(7,.d (.int (k:Nat)))] []) ?_ ?_
 ·refine ⟨_,_,?_,0,rfl,Nat.zero_le _,fun i hi=>absurd hi (Nat.not_lt_zero _),rfl⟩
  (refine sle_mk ?_ ?_ <;> simp (disch:=(first | omega | (simp;omega))) only [go_sem,w64,ratsD] <;> exact leafs)
 ·rintro mm s ⟨k,rfl,hk,hA,rfl⟩
  repeat' (first | refine sq ?_ | refine stp ?_ | refine blk_o (by decide) ?_ | (apply cb;(focus (simp (disch:=(first | omega | (simp;omega))) only [go_sem,w64,ratsD,hlm];try exact rfl));refine cok ?_) | (refine rgT ?_;intro K hK) | (refine dA ?_;intro K hK) | (with_reducible refine hK _ ?_;clear hK K) | (refine stq ?_;simp (disch:=(first | omega | (simp;omega))) only [go_sem,w64,ratsD,hlm]) | refine as1 ?_ | fail)
  refine awp_if (p:=(k:Int)<(l.length:Nat)) (by simp (disch:=(first | omega | (simp;omega))) only [go_sem,w64,ratsD,hlm]) ?_ ?_ <;> intro hc
  ·have hk2:k<l.length:=by omega
   have g1:(l.map ratDV).getD k (.bool false)=ratDV (qx l k):=getDq hk2
   have w1:IntKind.i64.wrap ((k:Int)+1)=((k+1:Nat):Int):=by rw [w64 (by omega)];rfl
   have hno:=admB_no hk2
   have hA':adm1 (qx l k)=true→∀ i,i<k+1→adm1 (qx l i)=true:=fun h i hi=>by
    by_cases e:i=k
    ·subst e;exact h
    ·exact hA i (by omega)
   have hv:=implValidRA (qx l k)
   repeat' (first | refine sq ?_ | refine stp ?_ | refine blk_o (by decide) ?_ | (apply cb;(focus (simp (disch:=(first | omega | (simp;omega))) only [go_sem,w64,ratsD,ratDV,g1,hlm];try exact rfl));refine cok ?_) | (refine rgT ?_;intro K hK) | (refine dA ?_;intro K hK) | (with_reducible refine hK _ ?_;clear hK K) | (refine stq ?_;simp (disch:=(first | omega | (simp;omega))) only [go_sem,w64,ratsD,ratDV,g1,hlm]) | refine as1 ?_ | fail)
   (first | refine callA (hv) ?_ | refine callD (hv) ?_ | refine callE (hv) ?_ | refine callF (hv) ?_ ?_)
   generalize hq:qx l k=x at *
   have hwi:=withinR x.num 0 1000
   have had:adm1 x=(vR x && (decide (0≤x.num∧x.num≤1000) && decide (x.den≤1000))):=rfl
   cases hvx:vR x with
   | false =>
    have hn:=hno (by rw [had,hvx];rfl)
    repeat' (first | refine sq ?_ | refine stp ?_ | refine blk_o (by decide) ?_ | (apply cb;(focus (simp (disch:=(first | omega | (simp;omega))) only [go_sem,w64,ratsD,ratDV,g1,hlm];try exact rfl));refine cok ?_) | (refine rgT ?_;intro K hK) | (refine dA ?_;intro K hK) | (with_reducible refine hK _ ?_;clear hK K) | (refine stq ?_;simp (disch:=(first | omega | (simp;omega))) only [go_sem,w64,ratsD,ratDV,g1,hlm]) | refine as1 ?_ | fail)
    (refine endA (r:=.d (.bool false)) ?_)
    exact ⟨by rw [hn],rfl⟩
   | true =>
    repeat' (first | refine sq ?_ | refine stp ?_ | refine blk_o (by decide) ?_ | (apply cb;(focus (simp (disch:=(first | omega | (simp;omega))) only [go_sem,w64,ratsD,ratDV,g1,hlm];try exact rfl));refine cok ?_) | (refine rgT ?_;intro K hK) | (refine dA ?_;intro K hK) | (with_reducible refine hK _ ?_;clear hK K) | (refine stq ?_;simp (disch:=(first | omega | (simp;omega))) only [go_sem,w64,ratsD,ratDV,g1,hlm]) | refine as1 ?_ | fail)
    (first | refine callA (hwi) ?_ | refine callD (hwi) ?_ | refine callE (hwi) ?_ | refine callF (hwi) ?_ ?_)
    cases hwx:decide (0≤x.num∧x.num≤1000) with
    | false =>
     have hn:=hno (by rw [had,hvx,hwx];rfl)
     repeat' (first | refine sq ?_ | refine stp ?_ | refine blk_o (by decide) ?_ | (apply cb;(focus (simp (disch:=(first | omega | (simp;omega))) only [go_sem,w64,ratsD,ratDV,g1,hlm];try exact rfl));refine cok ?_) | (refine rgT ?_;intro K hK) | (refine dA ?_;intro K hK) | (with_reducible refine hK _ ?_;clear hK K) | (refine stq ?_;simp (disch:=(first | omega | (simp;omega))) only [go_sem,w64,ratsD,ratDV,g1,hlm]) | refine as1 ?_ | fail)
     (refine endA (r:=.d (.bool false)) ?_)
     exact ⟨by rw [hn],rfl⟩
    | true =>
     by_cases c3:1000<x.den
     ·have hn:=hno (by rw [had,decide_eq_false (show ¬ x.den≤1000 by omega),Bool.and_false,Bool.and_false])
      have z3:decide (1000<x.den)=true:=decide_eq_true c3
      repeat' (first | refine sq ?_ | refine stp ?_ | refine blk_o (by decide) ?_ | (apply cb;(focus (simp (disch:=(first | omega | (simp;omega))) only [go_sem,w64,ratsD,ratDV,g1,hlm,z3];try exact rfl));refine cok ?_) | (refine rgT ?_;intro K hK) | (refine dA ?_;intro K hK) | (with_reducible refine hK _ ?_;clear hK K) | (refine stq ?_;simp (disch:=(first | omega | (simp;omega))) only [go_sem,w64,ratsD,ratDV,g1,hlm,z3]) | refine as1 ?_ | fail)
      (refine endA (r:=.d (.bool false)) ?_)
      exact ⟨by rw [hn],rfl⟩
     ·have z3:decide (1000<x.den)=false:=decide_eq_false c3
      have hy:=hA' (by rw [had,hvx,hwx,decide_eq_true (show x.den≤1000 by omega)];rfl)
      repeat' (first | refine sq ?_ | refine stp ?_ | refine blk_o (by decide) ?_ | (apply cb;(focus (simp (disch:=(first | omega | (simp;omega))) only [go_sem,w64,ratsD,ratDV,g1,hlm,z3,w1];try exact rfl));refine cok ?_) | (refine rgT ?_;intro K hK) | (refine dA ?_;intro K hK) | (with_reducible refine hK _ ?_;clear hK K) | (refine stq ?_;simp (disch:=(first | omega | (simp;omega))) only [go_sem,w64,ratsD,ratDV,g1,hlm,z3,w1]) | refine as1 ?_ | fail)
      refine ⟨l.length - (k+1),_,by omega,?_,k+1,rfl,by omega,hy,rfl⟩
      (refine sle_mk ?_ ?_ <;> simp (disch:=(first | omega | (simp;omega))) only [go_sem,w64,ratsD] <;> exact leafs)
  ·obtain rfl:k=l.length:=by omega
   have hy:=admB_yes hA
   repeat' (first | refine sq ?_ | refine stp ?_ | refine blk_o (by decide) ?_ | (apply cb;(focus (simp (disch:=(first | omega | (simp;omega))) only [go_sem,w64,ratsD,hlm];try exact rfl));refine cok ?_) | (refine rgT ?_;intro K hK) | (refine dA ?_;intro K hK) | (with_reducible refine hK _ ?_;clear hK K) | (refine stq ?_;simp (disch:=(first | omega | (simp;omega))) only [go_sem,w64,ratsD,hlm]) | refine as1 ?_ | fail)
   (refine endA (r:=.d (.bool true)) ?_)
   exact ⟨by rw [hy],rfl⟩
set_option maxRecDepth 100000 in
set_option maxHeartbeats 4000000 in
theorem implCovG (nv:Int) (xs:List AtomD) (us:List Int) (hn:NmOK xs) (w:List RatD) (hw:w.length≤1048576) (hx:xs.length≤1048576):AFnG 8 [.d (queryD nv xs us),.d (ratsD w)] (fun r os=>r=.d (.bool (covF nv xs us w))∧os=[]):=by
 refine afn_ofG (rv:=[.tmp 4]) tyT_ok Tryd.func8 rfl (by decide +kernel) Tryd.ntmps8 rfl (by simp) ?_
 have hxm:(xs.map atomDV).length=xs.length:=List.length_map ..
 have hwm:(w.map ratDV).length=w.length:=List.length_map ..
 have had0:=implAdmA w hw
 repeat' (first | refine sq ?_ | refine stp ?_ | refine blk_o (by decide) ?_ | (apply cb;(focus (simp (disch:=(first | omega | (simp;omega))) only [go_sem,w64,queryD,intsD,hxm];try exact rfl));refine cok ?_) | (refine rgT ?_;intro K hK) | (refine dA ?_;intro K hK) | (with_reducible refine hK _ ?_;clear hK K) | (refine stq ?_;simp (disch:=(first | omega | (simp;omega))) only [go_sem,w64,queryD,intsD,hxm]) | refine as1 ?_ | fail)
 (first | refine callA (implValidQA nv xs us hn) ?_ | refine callD (implValidQA nv xs us hn) ?_ | refine callE (implValidQA nv xs us hn) ?_ | refine callF (implValidQA nv xs us hn) ?_ ?_)
 cases hq:qOK nv xs us with
 | false =>
  repeat' (first | refine sq ?_ | refine stp ?_ | refine blk_o (by decide) ?_ | (apply cb;(focus (simp (disch:=(first | omega | (simp;omega))) only [go_sem,w64,hq];try exact rfl));refine cok ?_) | (refine rgT ?_;intro K hK) | (refine dA ?_;intro K hK) | (with_reducible refine hK _ ?_;clear hK K) | (refine stq ?_;simp (disch:=(first | omega | (simp;omega))) only [go_sem,w64,hq]) | refine as1 ?_ | fail)
  (refine endA (r:=.d (.bool false)) ?_)
  exact ⟨by unfold covF;rw [hq];rfl,rfl⟩
 | true =>
  obtain ⟨⟨v1,v2⟩,x1,x2⟩:=qOK_sz hq
  obtain ⟨m,rfl⟩:∃ m:Nat,nv=m:=⟨nv.toNat,by omega⟩
  have e0:covF m xs us w=((admB w && decide (w.length=xs.length)) && covB m xs.length (occP xs) w):=by unfold covF;rw [hq];simp
  by_cases hlw:w.length=xs.length
  ·have z0:decide (((w.length:Nat):Int)=(xs.length:Nat))=true:=decide_eq_true (by omega)
   have z0':(((w.length:Nat):Int)=(xs.length:Nat))↔True:=iff_of_true (by omega) trivial
   repeat' (first | refine sq ?_ | refine stp ?_ | refine blk_o (by decide) ?_ | (apply cb;(focus (simp (disch:=(first | omega | (simp;omega))) only [go_sem,w64,hq,hxm,hwm,ratsD,z0];try exact rfl));refine cok ?_) | (refine rgT ?_;intro K hK) | (refine dA ?_;intro K hK) | (with_reducible refine hK _ ?_;clear hK K) | (refine stq ?_;simp (disch:=(first | omega | (simp;omega))) only [go_sem,w64,hq,hxm,hwm,ratsD,z0]) | refine as1 ?_ | fail)
   (first | refine callA (had0) ?_ | refine callD (had0) ?_ | refine callE (had0) ?_ | refine callF (had0) ?_ ?_)
   cases had:admB w with
   | false =>
    repeat' (first | refine sq ?_ | refine stp ?_ | refine blk_o (by decide) ?_ | (apply cb;(focus (simp (disch:=(first | omega | (simp;omega))) only [go_sem,w64];try exact rfl));refine cok ?_) | (refine rgT ?_;intro K hK) | (refine dA ?_;intro K hK) | (with_reducible refine hK _ ?_;clear hK K) | (refine stq ?_;simp (disch:=(first | omega | (simp;omega))) only [go_sem,w64]) | refine as1 ?_ | fail)
    (refine endA (r:=.d (.bool false)) ?_)
    exact ⟨by rw [e0,had];rfl,rfl⟩
   | true =>
    rw [had,decide_eq_true hlw,Bool.true_and,Bool.true_and] at e0
    repeat' (first | refine sq ?_ | refine stp ?_ | refine blk_o (by decide) ?_ | (apply cb;(focus (simp (disch:=(first | omega | (simp;omega))) only [go_sem,w64];try exact rfl));refine cok ?_) | (refine rgT ?_;intro K hK) | (refine dA ?_;intro K hK) | (with_reducible refine hK _ ?_;clear hK K) | (refine stq ?_;simp (disch:=(first | omega | (simp;omega))) only [go_sem,w64]) | refine as1 ?_ | fail)
    refine awp_loopw (fun mm s=>∃ v:Nat,mm=m - v∧v≤m∧(∀ i,i<v→cov1 (sumF (selB (occP xs i) w xs.length))=true)∧s=mkS [(1,.d (ratsD w)),(2,.ptr 2 0),(5,.d (.int (v:Nat)))] [(2,[.d (.int (m:Nat)),.d (.sl 2 (xs.map atomDV)),.d (.sl 1 (us.map .int))])]) ?_ ?_
    ·refine ⟨_,_,?_,0,rfl,Nat.zero_le _,fun i hi=>absurd hi (Nat.not_lt_zero _),rfl⟩
     (refine sle_mk ?_ ?_ <;> simp (disch:=(first | omega | (simp;omega))) only [go_sem,w64,ratsD] <;> exact leafs)
    ·rintro mm s ⟨v,rfl,hv,hA,rfl⟩
     have w4:IntKind.i64.wrap ((v:Int)+1)=((v+1:Nat):Int):=by rw [w64 (by omega)];rfl
     repeat' (first | refine sq ?_ | refine stp ?_ | refine blk_o (by decide) ?_ | (apply cb;(focus (simp (disch:=(first | omega | (simp;omega))) only [go_sem,w64];try exact rfl));refine cok ?_) | (refine rgT ?_;intro K hK) | (refine dA ?_;intro K hK) | (with_reducible refine hK _ ?_;clear hK K) | (refine stq ?_;simp (disch:=(first | omega | (simp;omega))) only [go_sem,w64]) | refine as1 ?_ | fail)
     refine awp_if (p:=(v:Int)<(m:Nat)) (by simp (disch:=(first | omega | (simp;omega))) only [go_sem,w64]) ?_ ?_ <;> intro hc
     ·have hv2:v<m:=by omega
      repeat' (first | refine sq ?_ | refine stp ?_ | refine blk_o (by decide) ?_ | (apply cb;(focus (simp (disch:=(first | omega | (simp;omega))) only [go_sem,w64,hxm];try exact rfl));refine cok ?_) | (refine rgT ?_;intro K hK) | (refine dA ?_;intro K hK) | (with_reducible refine hK _ ?_;clear hK K) | (refine stq ?_;simp (disch:=(first | omega | (simp;omega))) only [go_sem,w64,hxm]) | refine as1 ?_ | fail)
      refine awp_nilbuf 6 6 33 2 (by simp (disch:=(first | omega | (simp;omega))) only [go_sem,w64]) ?_
      refine awp_loopw (fun mm s=>∃ i:Nat,mm=xs.length - i∧i≤xs.length∧s=mkS [(1,.d (ratsD w)),(2,.ptr 2 0),(5,.d (.int (v:Nat))),(6,.buf 6 33 2 ((selB (occP xs v) w i).map ratDV)),(34,.d (.sl 2 (xs.map atomDV))),(35,.d (.int (xs.length:Nat))),(36,.d (.int (i:Nat)))] [(2,[.d (.int (m:Nat)),.d (.sl 2 (xs.map atomDV)),.d (.sl 1 (us.map .int))])]) ?_ ?_
      ·refine ⟨_,_,?_,0,rfl,Nat.zero_le _,rfl⟩
       have e:selB (occP xs v) w 0=[]:=rfl
       (refine sle_mk ?_ ?_ <;> simp (disch:=(first | omega | (simp;omega))) only [go_sem,w64,e,List.map_nil,ratsD] <;> exact leafs)
      ·rintro mm s ⟨i,rfl,hi,rfl⟩
       have w5:IntKind.i64.wrap ((i:Int)+1)=((i+1:Nat):Int):=by rw [w64 (by omega)];rfl
       repeat' (first | refine sq ?_ | refine stp ?_ | refine blk_o (by decide) ?_ | (apply cb;(focus (simp (disch:=(first | omega | (simp;omega))) only [go_sem,w64,hwm,ratsD];try exact rfl));refine cok ?_) | (refine rgT ?_;intro K hK) | (refine dA ?_;intro K hK) | (with_reducible refine hK _ ?_;clear hK K) | (refine stq ?_;simp (disch:=(first | omega | (simp;omega))) only [go_sem,w64,hwm,ratsD]) | refine as1 ?_ | fail)
       refine awp_if (p:=(i:Int)<(xs.length:Nat)) (by simp (disch:=(first | omega | (simp;omega))) only [go_sem,w64,hwm,ratsD]) ?_ ?_ <;> intro hc2
       ·have hi2:i<w.length:=by omega
        have r0:(xs.map atomDV).getD i (.bool false)=atomDV (ax xs i):=getDA' (by omega)
        have g1:(w.map ratDV).getD i (.bool false)=ratDV (qx w i):=getDq hi2
        have ht:selB (occP xs v) w (i+1)=if occ (ax xs i).vs v=true then selB (occP xs v) w i ++ [qx w i] else selB (occP xs v) w i:=rfl
        have hb:((selB (occP xs v) w i).map ratDV).length=(selB (occP xs v) w i).length:=List.length_map ..
        have hbl:=selB_len (occP xs v) w i
        have hix:i<xs.length:=by omega
        have hh:=implHasA (ax xs i) v
        generalize selB (occP xs v) w i=lb at *
        generalize ax xs i=x at *
        generalize hqx:qx w i=y at *
        repeat' (first | refine sq ?_ | refine stp ?_ | refine blk_o (by decide) ?_ | (apply cb;(focus (simp (disch:=(first | omega | (simp;omega))) only [go_sem,w64,r0,atomDV,intsD,hxm];try exact rfl));refine cok ?_) | (refine rgT ?_;intro K hK) | (refine dA ?_;intro K hK) | (with_reducible refine hK _ ?_;clear hK K) | (refine stq ?_;simp (disch:=(first | omega | (simp;omega))) only [go_sem,w64,r0,atomDV,intsD,hxm]) | refine as1 ?_ | fail)
        (first | refine callA (hh) ?_ | refine callD (hh) ?_ | refine callE (hh) ?_ | refine callF (hh) ?_ ?_)
        cases hoc:occ x.vs v with
        | true =>
         rw [if_pos hoc] at ht
         repeat' (first | refine sq ?_ | refine stp ?_ | refine blk_o (by decide) ?_ | (apply cb;(focus (simp (disch:=(first | omega | (simp;omega))) only [go_sem,w64,w5,hb,hwm,ratsD,ratDV,g1];try exact rfl));refine cok ?_) | (refine rgT ?_;intro K hK) | (refine dA ?_;intro K hK) | (with_reducible refine hK _ ?_;clear hK K) | (refine stq ?_;simp (disch:=(first | omega | (simp;omega))) only [go_sem,w64,w5,hb,hwm,ratsD,ratDV,g1]) | refine as1 ?_ | fail)
         refine ⟨xs.length - (i+1),_,by omega,?_,i+1,rfl,by omega,rfl⟩
         rw [ht,List.map_append]
         (refine sle_mk ?_ ?_ <;> simp (disch:=(first | omega | (simp;omega))) only [go_sem,w64,List.map_cons,List.map_nil,ratDV,ratsD] <;> exact leafs)
        | false =>
         rw [if_neg (by rw [hoc];simp)] at ht
         repeat' (first | refine sq ?_ | refine stp ?_ | refine blk_o (by decide) ?_ | (apply cb;(focus (simp (disch:=(first | omega | (simp;omega))) only [go_sem,w64,w5,hwm,ratsD];try exact rfl));refine cok ?_) | (refine rgT ?_;intro K hK) | (refine dA ?_;intro K hK) | (with_reducible refine hK _ ?_;clear hK K) | (refine stq ?_;simp (disch:=(first | omega | (simp;omega))) only [go_sem,w64,w5,hwm,ratsD]) | refine as1 ?_ | fail)
         refine ⟨xs.length - (i+1),_,by omega,?_,i+1,rfl,by omega,rfl⟩
         rw [ht]
         (refine sle_mk ?_ ?_ <;> simp (disch:=(first | omega | (simp;omega))) only [go_sem,w64,ratsD] <;> exact leafs)
       ·obtain rfl:i=xs.length:=by omega
        have hno:=covB_no (p:=occP xs) (w:=w) (n:=xs.length) hv2
        have hyes:cov1 (sumF (selB (occP xs v) w xs.length))=true→∀ i,i<v+1→cov1 (sumF (selB (occP xs i) w xs.length))=true:=fun h i hi=>by
         by_cases e:i=v
         ·subst e;exact h
         ·exact hA i (by omega)
        have hsl:=selB_len (occP xs v) w xs.length
        generalize selB (occP xs v) w xs.length=lb at *
        have hsu:=implSumA lb (by omega)
        repeat' (first | refine sq ?_ | refine stp ?_ | refine blk_o (by decide) ?_ | (apply cb;(focus (simp (disch:=(first | omega | (simp;omega))) only [go_sem,w64];try exact rfl));refine cok ?_) | (refine rgT ?_;intro K hK) | (refine dA ?_;intro K hK) | (with_reducible refine hK _ ?_;clear hK K) | (refine stq ?_;simp (disch:=(first | omega | (simp;omega))) only [go_sem,w64]) | refine as1 ?_ | fail)
        (first | refine callA (hsu) ?_ | refine callD (hsu) ?_ | refine callE (hsu) ?_ | refine callF (hsu) ?_ ?_)
        cases hs:sumF lb with
        | none =>
         have hn:=hno (by rw [hs];rfl)
         repeat' (first | refine sq ?_ | refine stp ?_ | refine blk_o (by decide) ?_ | (apply cb;(focus (simp (disch:=(first | omega | (simp;omega))) only [go_sem,w64,ansQ,ratDV];try exact rfl));refine cok ?_) | (refine rgT ?_;intro K hK) | (refine dA ?_;intro K hK) | (with_reducible refine hK _ ?_;clear hK K) | (refine stq ?_;simp (disch:=(first | omega | (simp;omega))) only [go_sem,w64,ansQ,ratDV]) | refine as1 ?_ | fail)
         (refine endA (r:=.d (.bool false)) ?_)
         exact ⟨by rw [e0,hn],rfl⟩
        | some s =>
         have hcm:=implCmpA s ⟨1,1⟩
         have hc1:cov1 (some s) = !decide (cmpQ s ⟨1,1⟩<0):=rfl
         rw [← hs] at hc1
         generalize cmpQ s ⟨1,1⟩=c at *
         repeat' (first | refine sq ?_ | refine stp ?_ | refine blk_o (by decide) ?_ | (apply cb;(focus (simp (disch:=(first | omega | (simp;omega))) only [go_sem,w64,ansQ,ratDV];try exact rfl));refine cok ?_) | (with_reducible refine hK _ ?_;clear hK K) | (refine stq ?_;simp (disch:=(first | omega | (simp;omega))) only [go_sem,w64,ansQ,ratDV]) | refine as1 ?_ | fail)
         refine awp_regionG (o:=?o) tyT_ok 4 (j:=2) (t:=59) (want:=false) ?h1 ?h2 ?h3 (by decide) ?h4
         case h1=>rfl
         case h2=>rfl
         case h3=>rfl
         intro K K2 hK hK2
         repeat' (first | refine sq ?_ | refine stp ?_ | refine blk_o (by decide) ?_ | (apply cb;(focus (simp (disch:=(first | omega | (simp;omega))) only [go_sem,w64];try exact rfl));refine cok ?_) | (with_reducible refine hK _ ?_;clear hK K) | (refine stq ?_;simp (disch:=(first | omega | (simp;omega))) only [go_sem,w64]) | refine as1 ?_ | fail)
         refine lloadG tyT_ok rfl rfl rfl rfl rfl (hK2 _ ?_)
         clear hK2 K2
         repeat' (first | refine sq ?_ | refine stp ?_ | refine blk_o (by decide) ?_ | (apply cb;(focus (simp (disch:=(first | omega | (simp;omega))) only [go_sem,w64,ratDV];try exact rfl));refine cok ?_) | (refine rgT ?_;intro K hK) | (refine dA ?_;intro K hK) | (with_reducible refine hK _ ?_;clear hK K) | (refine stq ?_;simp (disch:=(first | omega | (simp;omega))) only [go_sem,w64,ratDV]) | refine as1 ?_ | fail)
         (first | refine callA (hcm) ?_ | refine callD (hcm) ?_ | refine callE (hcm) ?_ | refine callF (hcm) ?_ ?_)
         by_cases hcc:c<0
         ·have z1:decide (c<0)=true:=decide_eq_true hcc
          have hn:=hno (by rw [hc1,z1];rfl)
          repeat' (first | refine sq ?_ | refine stp ?_ | refine blk_o (by decide) ?_ | (apply cb;(focus (simp (disch:=(first | omega | (simp;omega))) only [go_sem,w64,z1];try exact rfl));refine cok ?_) | (refine rgT ?_;intro K hK) | (refine dA ?_;intro K hK) | (with_reducible refine hK _ ?_;clear hK K) | (refine stq ?_;simp (disch:=(first | omega | (simp;omega))) only [go_sem,w64,z1]) | refine as1 ?_ | fail)
          (refine endA (r:=.d (.bool false)) ?_)
          exact ⟨by rw [e0,hn],rfl⟩
         ·have z1:decide (c<0)=false:=decide_eq_false hcc
          have hy:=hyes (by rw [hc1,z1];rfl)
          repeat' (first | refine sq ?_ | refine stp ?_ | refine blk_o (by decide) ?_ | (apply cb;(focus (simp (disch:=(first | omega | (simp;omega))) only [go_sem,w64,z1,w4];try exact rfl));refine cok ?_) | (refine rgT ?_;intro K hK) | (refine dA ?_;intro K hK) | (with_reducible refine hK _ ?_;clear hK K) | (refine stq ?_;simp (disch:=(first | omega | (simp;omega))) only [go_sem,w64,z1,w4]) | refine as1 ?_ | fail)
          refine ⟨m - (v+1),_,by omega,?_,v+1,rfl,by omega,hy,rfl⟩
          (refine sle_mk ?_ ?_ <;> simp (disch:=(first | omega | (simp;omega))) only [go_sem,w64,ratsD] <;> exact leafs)
     ·obtain rfl:v=m:=by omega
      have hy:=covB_yes hA
      repeat' (first | refine sq ?_ | refine stp ?_ | refine blk_o (by decide) ?_ | (apply cb;(focus (simp (disch:=(first | omega | (simp;omega))) only [go_sem,w64];try exact rfl));refine cok ?_) | (refine rgT ?_;intro K hK) | (refine dA ?_;intro K hK) | (with_reducible refine hK _ ?_;clear hK K) | (refine stq ?_;simp (disch:=(first | omega | (simp;omega))) only [go_sem,w64]) | refine as1 ?_ | fail)
      (refine endA (r:=.d (.bool true)) ?_)
      exact ⟨by rw [e0,hy],rfl⟩
  ·have z0:decide (((w.length:Nat):Int)=(xs.length:Nat))=false:=decide_eq_false (by omega)
   repeat' (first | refine sq ?_ | refine stp ?_ | refine blk_o (by decide) ?_ | (apply cb;(focus (simp (disch:=(first | omega | (simp;omega))) only [go_sem,w64,hq,hxm,hwm,ratsD,z0];try exact rfl));refine cok ?_) | (refine rgT ?_;intro K hK) | (refine dA ?_;intro K hK) | (with_reducible refine hK _ ?_;clear hK K) | (refine stq ?_;simp (disch:=(first | omega | (simp;omega))) only [go_sem,w64,hq,hxm,hwm,ratsD,z0]) | refine as1 ?_ | fail)
   (refine endA (r:=.d (.bool false)) ?_)
   exact ⟨by rw [e0,decide_eq_false hlw,Bool.and_false];rfl,rfl⟩
theorem pak_list (vs:List Int) (w:List RatD):∀ k:Nat,((avTo vs k).map fun u=>qx w u.toNat)=selB (fun v=>occ vs v) w k
 | 0=>rfl
 | k+1=>by
  simp only [avTo,selB]
  split
  ·rw [List.map_append,pak_list vs w k];rfl
  ·exact pak_list vs w k
theorem selB_stop {p:Nat→Bool} {w:List RatD} {m:Nat} (h:∀ v,m≤v→p v=false):∀ k,m≤k→selB p w k=selB p w m
 | 0,hk=>by rw [show m=0 by omega]
 | k+1,hk=>by
  by_cases e:m=k+1
  ·rw [e]
  ·simp only [selB,h k (by omega)]
   exact selB_stop h k (by omega)
theorem av_lt {vs:List Int} {m:Nat} (h:∀ j,j<vs.length→0≤ix vs j∧ix vs j≤(m:Int) - 1) {v:Nat} (hv:m≤v):occ vs v=false:=occ_none fun i hi e=>by
 have:=h i hi;omega
theorem av_mem' (vs:List Int) (x:Int):∀ k:Nat,x∈avTo vs k→∃ j:Nat,x=j∧occ vs j=true
 | 0,h=>by cases h
 | k+1,h=>by
  simp only [avTo] at h
  split at h
  ·rename_i ho
   rcases List.mem_append.1 h with h | h
   ·exact av_mem' vs x k h
   ·rw [List.mem_singleton] at h;exact ⟨k,h,ho⟩
  ·exact av_mem' vs x k h
set_option maxRecDepth 100000 in
set_option maxHeartbeats 4000000 in
theorem implPakG (nv:Int) (xs:List AtomD) (us:List Int) (hn:NmOK xs) (w:List RatD) (hw:w.length≤1048576) (hx:xs.length≤1048576):AFnG 10 [.d (queryD nv xs us),.d (ratsD w)] (fun r os=>r=.d (.bool (pakF nv xs us w))∧os=[]):=by
 refine afn_ofG (rv:=[.tmp 4]) tyT_ok Tryd.func10 rfl (by decide +kernel) Tryd.ntmps10 rfl (by simp) ?_
 have hxm:(xs.map atomDV).length=xs.length:=List.length_map ..
 have hwm:(w.map ratDV).length=w.length:=List.length_map ..
 have had0:=implAdmA w hw
 repeat' (first | refine sq ?_ | refine stp ?_ | refine blk_o (by decide) ?_ | (apply cb;(focus (simp (disch:=(first | omega | (simp;omega))) only [go_sem,w64,queryD,intsD,hxm];try exact rfl));refine cok ?_) | (refine rgT ?_;intro K hK) | (refine dA ?_;intro K hK) | (with_reducible refine hK _ ?_;clear hK K) | (refine stq ?_;simp (disch:=(first | omega | (simp;omega))) only [go_sem,w64,queryD,intsD,hxm]) | refine as1 ?_ | fail)
 (first | refine callA (implValidQA nv xs us hn) ?_ | refine callD (implValidQA nv xs us hn) ?_ | refine callE (implValidQA nv xs us hn) ?_ | refine callF (implValidQA nv xs us hn) ?_ ?_)
 cases hq:qOK nv xs us with
 | false =>
  repeat' (first | refine sq ?_ | refine stp ?_ | refine blk_o (by decide) ?_ | (apply cb;(focus (simp (disch:=(first | omega | (simp;omega))) only [go_sem,w64,hq];try exact rfl));refine cok ?_) | (refine rgT ?_;intro K hK) | (refine dA ?_;intro K hK) | (with_reducible refine hK _ ?_;clear hK K) | (refine stq ?_;simp (disch:=(first | omega | (simp;omega))) only [go_sem,w64,hq]) | refine as1 ?_ | fail)
  (refine endA (r:=.d (.bool false)) ?_)
  exact ⟨by unfold pakF;rw [hq];rfl,rfl⟩
 | true =>
  obtain ⟨⟨v1,v2⟩,x1,x2⟩:=qOK_sz hq
  obtain ⟨_,_,hat,_⟩:=qOK_out hq
  obtain ⟨m,rfl⟩:∃ m:Nat,nv=m:=⟨nv.toNat,by omega⟩
  have e0:pakF m xs us w=((admB w && decide ((w.length:Int)=(m:Nat))) && pakB m xs.length (occP xs) w):=by unfold pakF;rw [hq];simp
  by_cases hlw:((w.length:Nat):Int)=(m:Nat)
  ·have z0:decide (((w.length:Nat):Int)=(m:Nat))=true:=decide_eq_true hlw
   repeat' (first | refine sq ?_ | refine stp ?_ | refine blk_o (by decide) ?_ | (apply cb;(focus (simp (disch:=(first | omega | (simp;omega))) only [go_sem,w64,hq,hxm,hwm,ratsD,z0];try exact rfl));refine cok ?_) | (refine rgT ?_;intro K hK) | (refine dA ?_;intro K hK) | (with_reducible refine hK _ ?_;clear hK K) | (refine stq ?_;simp (disch:=(first | omega | (simp;omega))) only [go_sem,w64,hq,hxm,hwm,ratsD,z0]) | refine as1 ?_ | fail)
   (first | refine callA (had0) ?_ | refine callD (had0) ?_ | refine callE (had0) ?_ | refine callF (had0) ?_ ?_)
   cases had:admB w with
   | false =>
    repeat' (first | refine sq ?_ | refine stp ?_ | refine blk_o (by decide) ?_ | (apply cb;(focus (simp (disch:=(first | omega | (simp;omega))) only [go_sem,w64];try exact rfl));refine cok ?_) | (refine rgT ?_;intro K hK) | (refine dA ?_;intro K hK) | (with_reducible refine hK _ ?_;clear hK K) | (refine stq ?_;simp (disch:=(first | omega | (simp;omega))) only [go_sem,w64]) | refine as1 ?_ | fail)
    (refine endA (r:=.d (.bool false)) ?_)
    exact ⟨by rw [e0,had];rfl,rfl⟩
   | true =>
    rw [had,decide_eq_true hlw,Bool.true_and,Bool.true_and] at e0
    repeat' (first | refine sq ?_ | refine stp ?_ | refine blk_o (by decide) ?_ | (apply cb;(focus (simp (disch:=(first | omega | (simp;omega))) only [go_sem,w64,hxm];try exact rfl));refine cok ?_) | (refine rgT ?_;intro K hK) | (refine dA ?_;intro K hK) | (with_reducible refine hK _ ?_;clear hK K) | (refine stq ?_;simp (disch:=(first | omega | (simp;omega))) only [go_sem,w64,hxm]) | refine as1 ?_ | fail)
    refine awp_loopw (fun mm s=>∃ i:Nat,mm=xs.length - i∧i≤xs.length∧(∀ j,j<i→pak1 (sumF (selB (fun v=>occP xs v j) w m))=true)∧s=mkS [(1,.d (ratsD w)),(28,.d (.sl 2 (xs.map atomDV))),(29,.d (.int (xs.length:Nat))),(30,.d (.int (i:Nat)))] []) ?_ ?_
    ·refine ⟨_,_,?_,0,rfl,Nat.zero_le _,fun i hi=>absurd hi (Nat.not_lt_zero _),rfl⟩
     (refine sle_mk ?_ ?_ <;> simp (disch:=(first | omega | (simp;omega))) only [go_sem,w64,ratsD] <;> exact leafs)
    ·rintro mm s ⟨i,rfl,hi,hA,rfl⟩
     have w4:IntKind.i64.wrap ((i:Int)+1)=((i+1:Nat):Int):=by rw [w64 (by omega)];rfl
     repeat' (first | refine sq ?_ | refine stp ?_ | refine blk_o (by decide) ?_ | (apply cb;(focus (simp (disch:=(first | omega | (simp;omega))) only [go_sem,w64];try exact rfl));refine cok ?_) | (refine rgT ?_;intro K hK) | (refine dA ?_;intro K hK) | (with_reducible refine hK _ ?_;clear hK K) | (refine stq ?_;simp (disch:=(first | omega | (simp;omega))) only [go_sem,w64]) | refine as1 ?_ | fail)
     refine awp_if (p:=(i:Int)<(xs.length:Nat)) (by simp (disch:=(first | omega | (simp;omega))) only [go_sem,w64]) ?_ ?_ <;> intro hc
     ·have hi2:i<xs.length:=by omega
      have r0:(xs.map atomDV).getD i (.bool false)=atomDV (ax xs i):=getDA' (by omega)
      have hai:=(hat i hi2).2.2
      have hpl:=pak_list (ax xs i).vs w 5
      rw [selB_stop (m:=m) (fun v hv=>av_lt hai hv) 5 (by omega)] at hpl
      have hpe:selB (fun v=>occ (ax xs i).vs v) w m=selB (fun v=>occP xs v i) w m:=rfl
      rw [hpe] at hpl
      have hsl:=selB_len (fun v=>occP xs v i) w m
      have hno:=pakB_no (p:=occP xs) (w:=w) (m:=m) hi2
      have hyes:pak1 (sumF (selB (fun v=>occP xs v i) w m))=true→∀ j,j<i+1→pak1 (sumF (selB (fun v=>occP xs v j) w m))=true:=fun h j hj=>by
       by_cases e:j=i
       ·subst e;exact h
       ·exact hA j (by omega)
      have hva:=implVarsA (ax xs i)
      have hin:∀ u∈avTo (ax xs i).vs 5,∃ k:Nat,u=k∧k<w.length:=fun u hu=>by
       obtain ⟨k,rfl,ho⟩:=av_mem' _ _ _ hu
       refine ⟨k,rfl,?_⟩
       refine Decidable.byContradiction fun hge=>?_
       rw [av_lt hai (by omega)] at ho;cases ho
      have hal:=avTo_len (ax xs i).vs 5
      generalize selB (fun v=>occP xs v i) w m=lb at *
      generalize ax xs i=x at *
      generalize avTo x.vs 5=L at *
      have hLm:(L.map DV.int).length=L.length:=List.length_map ..
      repeat' (first | refine sq ?_ | refine stp ?_ | refine blk_o (by decide) ?_ | (apply cb;(focus (simp (disch:=(first | omega | (simp;omega))) only [go_sem,w64,r0,atomDV,intsD,hxm];try exact rfl));refine cok ?_) | (refine rgT ?_;intro K hK) | (refine dA ?_;intro K hK) | (with_reducible refine hK _ ?_;clear hK K) | (refine stq ?_;simp (disch:=(first | omega | (simp;omega))) only [go_sem,w64,r0,atomDV,intsD,hxm]) | refine as1 ?_ | fail)
      (first | refine callA (hva) ?_ | refine callD (hva) ?_ | refine callE (hva) ?_ | refine callF (hva) ?_ ?_)
      repeat' (first | refine sq ?_ | refine stp ?_ | refine blk_o (by decide) ?_ | (apply cb;(focus (simp (disch:=(first | omega | (simp;omega))) only [go_sem,w64,intsD,hLm];try exact rfl));refine cok ?_) | (refine rgT ?_;intro K hK) | (refine dA ?_;intro K hK) | (with_reducible refine hK _ ?_;clear hK K) | (refine stq ?_;simp (disch:=(first | omega | (simp;omega))) only [go_sem,w64,intsD,hLm]) | refine as1 ?_ | fail)
      refine awp_nilbuf 7 7 33 2 (by simp (disch:=(first | omega | (simp;omega))) only [go_sem,w64]) ?_
      refine awp_loopw (fun mm s=>∃ j:Nat,mm=L.length - j∧j≤L.length∧s=mkS [(1,.d (ratsD w)),(28,.d (.sl 2 (xs.map atomDV))),(29,.d (.int (xs.length:Nat))),(30,.d (.int (i:Nat))),(7,.buf 7 33 2 (((L.take j).map fun u=>qx w u.toNat).map ratDV)),(35,.d (.sl 1 (L.map .int))),(36,.d (.int (L.length:Nat))),(37,.d (.int (j:Nat)))] []) ?_ ?_
      ·refine ⟨_,_,?_,0,rfl,Nat.zero_le _,rfl⟩
       (refine sle_mk ?_ ?_ <;> simp (disch:=(first | omega | (simp;omega))) only [go_sem,w64,List.take_zero,List.map_nil,ratsD] <;> exact leafs)
      ·rintro mm s ⟨j,rfl,hj,rfl⟩
       have w5:IntKind.i64.wrap ((j:Int)+1)=((j+1:Nat):Int):=by rw [w64 (by omega)];rfl
       repeat' (first | refine sq ?_ | refine stp ?_ | refine blk_o (by decide) ?_ | (apply cb;(focus (simp (disch:=(first | omega | (simp;omega))) only [go_sem,w64,hwm,ratsD];try exact rfl));refine cok ?_) | (refine rgT ?_;intro K hK) | (refine dA ?_;intro K hK) | (with_reducible refine hK _ ?_;clear hK K) | (refine stq ?_;simp (disch:=(first | omega | (simp;omega))) only [go_sem,w64,hwm,ratsD]) | refine as1 ?_ | fail)
       refine awp_if (p:=(j:Int)<(L.length:Nat)) (by simp (disch:=(first | omega | (simp;omega))) only [go_sem,w64,hwm,ratsD]) ?_ ?_ <;> intro hc2
       ·have hj2:j<L.length:=by omega
        have r1:(L.map DV.int).getD j (.bool false)=.int (L.getD j 0):=by simp [List.getD,hj2]
        obtain ⟨u,hu,hul⟩:=hin (L.getD j 0) (by simp [List.getD,hj2])
        have g1:(w.map ratDV).getD u (.bool false)=ratDV (qx w u):=getDq hul
        have ht:=take_mapI (fun v:Int=>qx w v.toNat) L 0 hj2
        rw [hu] at ht r1
        have hun:((u:Nat):Int).toNat=u:=Int.toNat_natCast u
        have hb:(((L.take j).map fun u=>qx w u.toNat).map ratDV).length=j:=by rw [List.length_map,List.length_map,List.length_take];omega
        simp only [hun] at ht
        generalize qx w u=y at *
        repeat' (first | refine sq ?_ | refine stp ?_ | refine blk_o (by decide) ?_ | (apply cb;(focus (simp (disch:=(first | omega | (simp;omega))) only [go_sem,w64,r1,hLm,hb,hwm,ratsD,ratDV,g1,w5];try exact rfl));refine cok ?_) | (refine rgT ?_;intro K hK) | (refine dA ?_;intro K hK) | (with_reducible refine hK _ ?_;clear hK K) | (refine stq ?_;simp (disch:=(first | omega | (simp;omega))) only [go_sem,w64,r1,hLm,hb,hwm,ratsD,ratDV,g1,w5]) | refine as1 ?_ | fail)
        refine ⟨L.length - (j+1),_,by omega,?_,j+1,rfl,by omega,rfl⟩
        rw [ht,List.map_append]
        (refine sle_mk ?_ ?_ <;> simp (disch:=(first | omega | (simp;omega))) only [go_sem,w64,List.map_cons,List.map_nil,ratDV,ratsD] <;> exact leafs)
       ·obtain rfl:j=L.length:=by omega
        rw [List.take_length,hpl]
        have hsu:=implSumA lb (by omega)
        repeat' (first | refine sq ?_ | refine stp ?_ | refine blk_o (by decide) ?_ | (apply cb;(focus (simp (disch:=(first | omega | (simp;omega))) only [go_sem,w64];try exact rfl));refine cok ?_) | (refine rgT ?_;intro K hK) | (refine dA ?_;intro K hK) | (with_reducible refine hK _ ?_;clear hK K) | (refine stq ?_;simp (disch:=(first | omega | (simp;omega))) only [go_sem,w64]) | refine as1 ?_ | fail)
        (first | refine callA (hsu) ?_ | refine callD (hsu) ?_ | refine callE (hsu) ?_ | refine callF (hsu) ?_ ?_)
        cases hs:sumF lb with
        | none =>
         have hn:=hno (by rw [hs];rfl)
         repeat' (first | refine sq ?_ | refine stp ?_ | refine blk_o (by decide) ?_ | (apply cb;(focus (simp (disch:=(first | omega | (simp;omega))) only [go_sem,w64,ansQ,ratDV];try exact rfl));refine cok ?_) | (refine rgT ?_;intro K hK) | (refine dA ?_;intro K hK) | (with_reducible refine hK _ ?_;clear hK K) | (refine stq ?_;simp (disch:=(first | omega | (simp;omega))) only [go_sem,w64,ansQ,ratDV]) | refine as1 ?_ | fail)
         (refine endA (r:=.d (.bool false)) ?_)
         exact ⟨by rw [e0,hn],rfl⟩
        | some s =>
         have hcm:=implCmpA s ⟨1,1⟩
         have hc1:pak1 (some s) = !decide (0<cmpQ s ⟨1,1⟩):=rfl
         rw [← hs] at hc1
         generalize cmpQ s ⟨1,1⟩=c at *
         repeat' (first | refine sq ?_ | refine stp ?_ | refine blk_o (by decide) ?_ | (apply cb;(focus (simp (disch:=(first | omega | (simp;omega))) only [go_sem,w64,ansQ,ratDV];try exact rfl));refine cok ?_) | (with_reducible refine hK _ ?_;clear hK K) | (refine stq ?_;simp (disch:=(first | omega | (simp;omega))) only [go_sem,w64,ansQ,ratDV]) | refine as1 ?_ | fail)
         refine awp_regionG (o:=?o) tyT_ok 4 (j:=2) (t:=56) (want:=false) ?h1 ?h2 ?h3 (by decide) ?h4
         case h1=>rfl
         case h2=>rfl
         case h3=>rfl
         intro K K2 hK hK2
         repeat' (first | refine sq ?_ | refine stp ?_ | refine blk_o (by decide) ?_ | (apply cb;(focus (simp (disch:=(first | omega | (simp;omega))) only [go_sem,w64];try exact rfl));refine cok ?_) | (with_reducible refine hK _ ?_;clear hK K) | (refine stq ?_;simp (disch:=(first | omega | (simp;omega))) only [go_sem,w64]) | refine as1 ?_ | fail)
         refine lloadG tyT_ok rfl rfl rfl rfl rfl (hK2 _ ?_)
         clear hK2 K2
         repeat' (first | refine sq ?_ | refine stp ?_ | refine blk_o (by decide) ?_ | (apply cb;(focus (simp (disch:=(first | omega | (simp;omega))) only [go_sem,w64,ratDV];try exact rfl));refine cok ?_) | (refine rgT ?_;intro K hK) | (refine dA ?_;intro K hK) | (with_reducible refine hK _ ?_;clear hK K) | (refine stq ?_;simp (disch:=(first | omega | (simp;omega))) only [go_sem,w64,ratDV]) | refine as1 ?_ | fail)
         (first | refine callA (hcm) ?_ | refine callD (hcm) ?_ | refine callE (hcm) ?_ | refine callF (hcm) ?_ ?_)
         by_cases hcc:0<c
         ·have z1:decide (0<c)=true:=decide_eq_true hcc
          have hn:=hno (by rw [hc1,z1];rfl)
          repeat' (first | refine sq ?_ | refine stp ?_ | refine blk_o (by decide) ?_ | (apply cb;(focus (simp (disch:=(first | omega | (simp;omega))) only [go_sem,w64,z1];try exact rfl));refine cok ?_) | (refine rgT ?_;intro K hK) | (refine dA ?_;intro K hK) | (with_reducible refine hK _ ?_;clear hK K) | (refine stq ?_;simp (disch:=(first | omega | (simp;omega))) only [go_sem,w64,z1]) | refine as1 ?_ | fail)
          (refine endA (r:=.d (.bool false)) ?_)
          exact ⟨by rw [e0,hn],rfl⟩
         ·have z1:decide (0<c)=false:=decide_eq_false hcc
          have hy:=hyes (by rw [hc1,z1];rfl)
          repeat' (first | refine sq ?_ | refine stp ?_ | refine blk_o (by decide) ?_ | (apply cb;(focus (simp (disch:=(first | omega | (simp;omega))) only [go_sem,w64,z1,w4];try exact rfl));refine cok ?_) | (refine rgT ?_;intro K hK) | (refine dA ?_;intro K hK) | (with_reducible refine hK _ ?_;clear hK K) | (refine stq ?_;simp (disch:=(first | omega | (simp;omega))) only [go_sem,w64,z1,w4]) | refine as1 ?_ | fail)
          refine ⟨xs.length - (i+1),_,by omega,?_,i+1,rfl,by omega,hy,rfl⟩
          (refine sle_mk ?_ ?_ <;> simp (disch:=(first | omega | (simp;omega))) only [go_sem,w64,ratsD] <;> exact leafs)
     ·obtain rfl:i=xs.length:=by omega
      have hy:=pakB_yes hA
      repeat' (first | refine sq ?_ | refine stp ?_ | refine blk_o (by decide) ?_ | (apply cb;(focus (simp (disch:=(first | omega | (simp;omega))) only [go_sem,w64];try exact rfl));refine cok ?_) | (refine rgT ?_;intro K hK) | (refine dA ?_;intro K hK) | (with_reducible refine hK _ ?_;clear hK K) | (refine stq ?_;simp (disch:=(first | omega | (simp;omega))) only [go_sem,w64]) | refine as1 ?_ | fail)
      (refine endA (r:=.d (.bool true)) ?_)
      exact ⟨by rw [e0,hy],rfl⟩
  ·have z0:decide (((w.length:Nat):Int)=(m:Nat))=false:=decide_eq_false hlw
   repeat' (first | refine sq ?_ | refine stp ?_ | refine blk_o (by decide) ?_ | (apply cb;(focus (simp (disch:=(first | omega | (simp;omega))) only [go_sem,w64,hq,hxm,hwm,ratsD,z0];try exact rfl));refine cok ?_) | (refine rgT ?_;intro K hK) | (refine dA ?_;intro K hK) | (with_reducible refine hK _ ?_;clear hK K) | (refine stq ?_;simp (disch:=(first | omega | (simp;omega))) only [go_sem,w64,hq,hxm,hwm,ratsD,z0]) | refine as1 ?_ | fail)
   (refine endA (r:=.d (.bool false)) ?_)
   exact ⟨by rw [e0,z0,Bool.and_false];rfl,rfl⟩
end Go.Proofs.YtkohkoiegmcghaaDoor
