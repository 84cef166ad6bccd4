/- Lemmas for the proof of FnCoverDuality, part 12 of 25: no condition of their own. -/
import Derived.Test.YtkohkoiegmcghaaDoorJ11
import Derived.Test.YtkohkoiegmcghaaDoorJ10
namespace Go.Proofs.YtkohkoiegmcghaaDoor
set_option linter.unusedSimpArgs false
set_option linter.unusedVariables false
attribute [local go_sem ↓] reduceIte
attribute [local go_sem] Nat.reduceEqDiff Nat.reduceLT Nat.reduceAdd Nat.reduceLeDiff Nat.reduceMul Nat.reduceBEq Nat.reduceSub reduceCtorEq Int.reduceLE Int.reduceNeg Int.reduceLT
open Go.RowKit
def posL (x:List RatD):Bool:=(List.range x.length).all fun i=>decide (0≤(qx x i).num)
theorem posL_no {x:List RatD} {i:Nat} (hi:i<x.length) (h:¬ 0≤(qx x i).num):posL x=false:=by
 cases e:posL x with
 | false=>rfl
 | true =>
  have:=List.all_eq_true.1 e i (List.mem_range.2 hi)
  exact absurd (of_decide_eq_true this) h
theorem posL_yes {x:List RatD} (h:∀ i,i<x.length→0≤(qx x i).num):posL x=true :=
 List.all_eq_true.2 fun i hi=>decide_eq_true (h i (List.mem_range.1 hi))
def sideL (l B:List RatD) (sg:Int):Bool:=(List.range l.length).all fun i=>decide (0≤sg*cmpQ (qx l i) (qx B i))
theorem sideL_no {l B:List RatD} {sg:Int} {i:Nat} (hi:i<l.length) (h:sg*cmpQ (qx l i) (qx B i)<0):sideL l B sg=false:=by
 cases e:sideL l B sg with
 | false=>rfl
 | true =>
  have:=List.all_eq_true.1 e i (List.mem_range.2 hi)
  have:=of_decide_eq_true this
  omega
theorem sideL_yes {l B:List RatD} {sg:Int} (h:∀ i,i<l.length→¬ sg*cmpQ (qx l i) (qx B i)<0):sideL l B sg=true :=
 List.all_eq_true.2 fun i hi=>decide_eq_true (by have:=h i (List.mem_range.1 hi);omega)
def feasF (A:List (List RatD)) (B C x:List RatD) (sg:Int):Bool:=lpV A B C && (decide (x.length=C.length) && (vL x && (posL x && match mvF A x with
 | some l=>sideL l B sg
 | none=>false)))
theorem cmpQ_rg (x y:RatD):cmpQ x y = -1∨cmpQ x y=0∨cmpQ x y=1:=by
 unfold cmpQ cmpRat cmpI
 split
 ·split
  ·exact .inl rfl
  ·split
   ·exact .inr (.inr rfl)
   ·exact .inr (.inl rfl)
 ·exact .inr (.inl rfl)
theorem sg_w {sg c:Int} (h:sg=1∨sg = -1) (hc:c = -1∨c=0∨c=1):IntKind.i64.wrap (sg*c)=sg*c:=by
 refine w64 ?_
 rcases h with rfl | rfl <;> rcases hc with rfl | rfl | rfl <;> decide
section
variable (A:List (List RatD)) (B C x:List RatD) (sg:Int) (hA:A.length≤1048576) (hr:∀ i,i<A.length→(mx A i).length≤1048576) (hB:B.length≤1048576) (hC:C.length≤1048576) (hx:x.length≤1048576) (hsg:sg=1∨sg = -1)
include hA hr hB hC hx hsg
set_option maxHeartbeats 2000000 in
theorem implFeasA:AFn 86 [.d (lpD A B C),.d (ratsD x),.d (.int sg)] [] (fun r os=>r=.d (.bool (feasF A B C x sg))∧os=[]):=by
 refine afn_of (rv:=[.tmp 6]) tyT_ok Tryd.func86 rfl (by decide +kernel) Tryd.ntmps86 rfl (by simp) ?_
 repeat' (first | refine sq ?_ | refine stp ?_ | refine blk_o (by decide) ?_ | (apply cb;(focus (simp (disch:=(first | omega | (simp;omega))) only [go_sem,w64,lpD];try exact rfl));refine cok ?_) | (refine rgT ?_;intro K hK) | (refine dA ?_;intro K hK) | (with_reducible refine hK _ ?_;clear hK K) | (refine stq ?_;simp (disch:=(first | omega | (simp;omega))) only [go_sem,w64,lpD]) | refine as1 ?_ | fail)
 (first | refine callA (implLpA A B C hA hr hB hC) ?_ | refine callD (implLpA A B C hA hr hB hC) ?_ | refine callE (implLpA A B C hA hr hB hC) ?_ | refine callF (implLpA A B C hA hr hB hC) ?_ ?_)
 cases h1:lpV A B C with
 | false =>
  repeat' (first | refine sq ?_ | refine stp ?_ | refine blk_o (by decide) ?_ | (apply cb;(focus (simp (disch:=(first | omega | (simp;omega))) only [go_sem,w64,lpD];try exact rfl));refine cok ?_) | (refine rgT ?_;intro K hK) | (refine dA ?_;intro K hK) | (with_reducible refine hK _ ?_;clear hK K) | (refine stq ?_;simp (disch:=(first | omega | (simp;omega))) only [go_sem,w64,lpD]) | refine as1 ?_ | fail)
  (refine endA (r:=.d (.bool false)) ?_)
  exact ⟨by unfold feasF;rw [h1];rfl,rfl⟩
 | true =>
  have hmv:=implMvA A x hA hr hx
  obtain ⟨_,_,hmo,_,_⟩:=lpV_out h1
  have hAB:=(matOK_out hmo).1
  by_cases h2:((x.length:Nat):Int)=(C.length:Nat)
  ·have y2:decide (((x.length:Nat):Int)=(C.length:Nat))=true:=decide_eq_true h2
   have e2:decide (x.length=C.length)=true:=decide_eq_true (by omega)
   repeat' (first | refine sq ?_ | refine stp ?_ | refine blk_o (by decide) ?_ | (apply cb;(focus (simp (disch:=(first | omega | (simp;omega))) only [go_sem,w64,lpD,y2];try exact rfl));refine cok ?_) | (refine rgT ?_;intro K hK) | (refine dA ?_;intro K hK) | (with_reducible refine hK _ ?_;clear hK K) | (refine stq ?_;simp (disch:=(first | omega | (simp;omega))) only [go_sem,w64,lpD,y2]) | refine as1 ?_ | fail)
   (first | refine callA (allValidA x hx) ?_ | refine callD (allValidA x hx) ?_ | refine callE (allValidA x hx) ?_ | refine callF (allValidA x hx) ?_ ?_)
   cases h3:vL x with
   | false =>
    repeat' (first | refine sq ?_ | refine stp ?_ | refine blk_o (by decide) ?_ | (apply cb;(focus (simp (disch:=(first | omega | (simp;omega))) only [go_sem,w64,lpD];try exact rfl));refine cok ?_) | (refine rgT ?_;intro K hK) | (refine dA ?_;intro K hK) | (with_reducible refine hK _ ?_;clear hK K) | (refine stq ?_;simp (disch:=(first | omega | (simp;omega))) only [go_sem,w64,lpD]) | refine as1 ?_ | fail)
    (refine endA (r:=.d (.bool false)) ?_)
    exact ⟨by unfold feasF;rw [h1,e2,h3];rfl,rfl⟩
   | true =>
    repeat' (first | refine sq ?_ | refine stp ?_ | refine blk_o (by decide) ?_ | (apply cb;(focus (simp (disch:=(first | omega | (simp;omega))) only [go_sem,w64,lpD,ratsD];try exact rfl));refine cok ?_) | (refine rgT ?_;intro K hK) | (refine dA ?_;intro K hK) | (with_reducible refine hK _ ?_;clear hK K) | (refine stq ?_;simp (disch:=(first | omega | (simp;omega))) only [go_sem,w64,lpD,ratsD]) | refine as1 ?_ | fail)
    refine awp_loopw (fun mm s=>∃ i,mm=x.length - i∧i≤x.length∧(∀ j,j<i→0≤(qx x j).num)∧s=mkS [(1,.d (ratsD x)),(2,.d (.int sg)),(3,.ptr 3 0),(29,.d (ratsD x)),(30,.d (.int (x.length:Nat))),(31,.d (.int (i:Nat)))] [(3,[.d (matD A),.d (ratsD B),.d (ratsD C)])]) ?_ ?_
    ·refine ⟨_,_,?_,0,rfl,Nat.zero_le _,fun j h=>absurd h (Nat.not_lt_zero _),rfl⟩
     (refine sle_mk ?_ ?_ <;> simp (disch:=(first | omega | (simp;omega))) only [go_sem,w64,ratsD,matD] <;> exact leafs)
    ·rintro mm s ⟨i,rfl,hi,hd,rfl⟩
     repeat' (first | refine sq ?_ | refine stp ?_ | refine blk_o (by decide) ?_ | (apply cb;(focus (simp (disch:=(first | omega | (simp;omega))) only [go_sem,w64,ratsD];try exact rfl));refine cok ?_) | (refine rgT ?_;intro K hK) | (refine dA ?_;intro K hK) | (with_reducible refine hK _ ?_;clear hK K) | (refine stq ?_;simp (disch:=(first | omega | (simp;omega))) only [go_sem,w64,ratsD]) | refine as1 ?_ | fail)
     refine awp_if (p:=(i:Int)<(x.length:Nat)) (by simp (disch:=(first | omega | (simp;omega))) only [go_sem,w64]) ?_ ?_ <;> intro hc
     ·have hi2:i<x.length:=by omega
      have g0:(x.map ratDV).getD i (.bool false)=ratDV (qx x i):=getDq hi2
      repeat' (first | refine sq ?_ | refine stp ?_ | refine blk_o (by decide) ?_ | (apply cb;(focus (simp (disch:=(first | omega | (simp;omega))) only [go_sem,w64,ratsD,g0,ratDV];try exact rfl));refine cok ?_) | (refine rgT ?_;intro K hK) | (refine dA ?_;intro K hK) | (with_reducible refine hK _ ?_;clear hK K) | (refine stq ?_;simp (disch:=(first | omega | (simp;omega))) only [go_sem,w64,ratsD,g0,ratDV]) | refine as1 ?_ | fail)
      refine awp_if (p:=(qx x i).num<0) (by simp (disch:=(first | omega | (simp;omega))) only [go_sem,w64]) ?_ ?_ <;> intro hc2
      ·repeat' (first | refine sq ?_ | refine stp ?_ | refine blk_o (by decide) ?_ | (apply cb;(focus (simp (disch:=(first | omega | (simp;omega))) only [go_sem,w64];try exact rfl));refine cok ?_) | (refine rgT ?_;intro K hK) | (refine dA ?_;intro K hK) | (with_reducible refine hK _ ?_;clear hK K) | (refine stq ?_;simp (disch:=(first | omega | (simp;omega))) only [go_sem,w64]) | refine as1 ?_ | fail)
       (refine endA (r:=.d (.bool false)) ?_)
       exact ⟨by unfold feasF;rw [h1,e2,h3,posL_no hi2 (by omega)];rfl,rfl⟩
      ·repeat' (first | refine sq ?_ | refine stp ?_ | refine blk_o (by decide) ?_ | (apply cb;(focus (simp (disch:=(first | omega | (simp;omega))) only [go_sem,w64];try exact rfl));refine cok ?_) | (refine rgT ?_;intro K hK) | (refine dA ?_;intro K hK) | (with_reducible refine hK _ ?_;clear hK K) | (refine stq ?_;simp (disch:=(first | omega | (simp;omega))) only [go_sem,w64]) | refine as1 ?_ | fail)
       refine ⟨x.length - (i+1),_,by omega,?_,i+1,rfl,by omega,fun j hj=>?_,rfl⟩
       ·(refine sle_mk ?_ ?_ <;> simp (disch:=(first | omega | (simp;omega))) only [go_sem,w64,ratsD,matD] <;> exact leafs)
       ·by_cases e:j=i
        ·subst e;omega
        ·exact hd j (by omega)
     ·obtain rfl:i=x.length:=by omega
      have h4:=posL_yes hd
      repeat' (first | refine sq ?_ | refine stp ?_ | refine blk_o (by decide) ?_ | (apply cb;(focus (simp (disch:=(first | omega | (simp;omega))) only [go_sem,w64,ratsD,matD];try exact rfl));refine cok ?_) | (refine rgT ?_;intro K hK) | (refine dA ?_;intro K hK) | (with_reducible refine hK _ ?_;clear hK K) | (refine stq ?_;simp (disch:=(first | omega | (simp;omega))) only [go_sem,w64,ratsD,matD]) | refine as1 ?_ | fail)
      (first | refine callA (hmv) ?_ | refine callD (hmv) ?_ | refine callE (hmv) ?_ | refine callF (hmv) ?_ ?_)
      cases h5:mvF A x with
      | none =>
       repeat' (first | refine sq ?_ | refine stp ?_ | refine blk_o (by decide) ?_ | (apply cb;(focus (simp (disch:=(first | omega | (simp;omega))) only [go_sem,w64,ansL];try exact rfl));refine cok ?_) | (refine rgT ?_;intro K hK) | (refine dA ?_;intro K hK) | (with_reducible refine hK _ ?_;clear hK K) | (refine stq ?_;simp (disch:=(first | omega | (simp;omega))) only [go_sem,w64,ansL]) | refine as1 ?_ | fail)
       (refine endA (r:=.d (.bool false)) ?_)
       exact ⟨by unfold feasF;rw [h1,e2,h3,h4,h5];rfl,rfl⟩
      | some l =>
       have hll:l.length=A.length:=mvTo_len h5
       have hfe:feasF A B C x sg=sideL l B sg:=by unfold feasF;rw [h1,e2,h3,h4,h5];rfl
       repeat' (first | refine sq ?_ | refine stp ?_ | refine blk_o (by decide) ?_ | (apply cb;(focus (simp (disch:=(first | omega | (simp;omega))) only [go_sem,w64,ansL,ratsD];try exact rfl));refine cok ?_) | (refine rgT ?_;intro K hK) | (refine dA ?_;intro K hK) | (with_reducible refine hK _ ?_;clear hK K) | (refine stq ?_;simp (disch:=(first | omega | (simp;omega))) only [go_sem,w64,ansL,ratsD]) | refine as1 ?_ | fail)
       refine awp_loopw (fun mm s=>∃ i,mm=l.length - i∧i≤l.length∧(∀ j,j<i→¬ sg*cmpQ (qx l j) (qx B j)<0)∧s=mkS [(2,.d (.int sg)),(3,.ptr 3 0),(48,.d (ratsD l)),(49,.d (.int (l.length:Nat))),(50,.d (.int (i:Nat)))] [(3,[.d (matD A),.d (ratsD B),.d (ratsD C)])]) ?_ ?_
       ·refine ⟨_,_,?_,0,rfl,Nat.zero_le _,fun j h=>absurd h (Nat.not_lt_zero _),rfl⟩
        (refine sle_mk ?_ ?_ <;> simp (disch:=(first | omega | (simp;omega))) only [go_sem,w64,ratsD,matD] <;> exact leafs)
       ·rintro mm s ⟨i,rfl,hi,hd2,rfl⟩
        repeat' (first | refine sq ?_ | refine stp ?_ | refine blk_o (by decide) ?_ | (apply cb;(focus (simp (disch:=(first | omega | (simp;omega))) only [go_sem,w64,ratsD];try exact rfl));refine cok ?_) | (refine rgT ?_;intro K hK) | (refine dA ?_;intro K hK) | (with_reducible refine hK _ ?_;clear hK K) | (refine stq ?_;simp (disch:=(first | omega | (simp;omega))) only [go_sem,w64,ratsD]) | refine as1 ?_ | fail)
        refine awp_if (p:=(i:Int)<(l.length:Nat)) (by simp (disch:=(first | omega | (simp;omega))) only [go_sem,w64]) ?_ ?_ <;> intro hc2
        ·have hi2:i<l.length:=by omega
         have hi3:i<B.length:=by omega
         have g0:(l.map ratDV).getD i (.bool false)=ratDV (qx l i):=getDq hi2
         have g1:(B.map ratDV).getD i (.bool false)=ratDV (qx B i):=getDq hi3
         have w1:=sg_w hsg (cmpQ_rg (qx l i) (qx B i))
         repeat' (first | refine sq ?_ | refine stp ?_ | refine blk_o (by decide) ?_ | (apply cb;(focus (simp (disch:=(first | omega | (simp;omega))) only [go_sem,w64,ratsD,g0,g1,ratDV];try exact rfl));refine cok ?_) | (refine rgT ?_;intro K hK) | (refine dA ?_;intro K hK) | (with_reducible refine hK _ ?_;clear hK K) | (refine stq ?_;simp (disch:=(first | omega | (simp;omega))) only [go_sem,w64,ratsD,g0,g1,ratDV]) | refine as1 ?_ | fail)
         (first | refine callA (implCmpA (qx l i) (qx B i)) ?_ | refine callD (implCmpA (qx l i) (qx B i)) ?_ | refine callE (implCmpA (qx l i) (qx B i)) ?_ | refine callF (implCmpA (qx l i) (qx B i)) ?_ ?_)
         generalize hcc:cmpQ (qx l i) (qx B i)=c at w1
         repeat' (first | refine sq ?_ | refine stp ?_ | refine blk_o (by decide) ?_ | (apply cb;(focus (simp (disch:=(first | omega | (simp;omega))) only [go_sem,w64,w1];try exact rfl));refine cok ?_) | (refine rgT ?_;intro K hK) | (refine dA ?_;intro K hK) | (with_reducible refine hK _ ?_;clear hK K) | (refine stq ?_;simp (disch:=(first | omega | (simp;omega))) only [go_sem,w64,w1]) | refine as1 ?_ | fail)
         refine awp_if (p:=sg*c<0) (by simp (disch:=(first | omega | (simp;omega))) only [go_sem,w64]) ?_ ?_ <;> intro hc3
         ·repeat' (first | refine sq ?_ | refine stp ?_ | refine blk_o (by decide) ?_ | (apply cb;(focus (simp (disch:=(first | omega | (simp;omega))) only [go_sem,w64];try exact rfl));refine cok ?_) | (refine rgT ?_;intro K hK) | (refine dA ?_;intro K hK) | (with_reducible refine hK _ ?_;clear hK K) | (refine stq ?_;simp (disch:=(first | omega | (simp;omega))) only [go_sem,w64]) | refine as1 ?_ | fail)
          (refine endA (r:=.d (.bool false)) ?_)
          exact ⟨by rw [hfe,sideL_no hi2 (by rw [hcc];exact hc3)],rfl⟩
         ·repeat' (first | refine sq ?_ | refine stp ?_ | refine blk_o (by decide) ?_ | (apply cb;(focus (simp (disch:=(first | omega | (simp;omega))) only [go_sem,w64];try exact rfl));refine cok ?_) | (refine rgT ?_;intro K hK) | (refine dA ?_;intro K hK) | (with_reducible refine hK _ ?_;clear hK K) | (refine stq ?_;simp (disch:=(first | omega | (simp;omega))) only [go_sem,w64]) | refine as1 ?_ | fail)
          refine ⟨l.length - (i+1),_,by omega,?_,i+1,rfl,by omega,fun j hj=>?_,rfl⟩
          ·(refine sle_mk ?_ ?_ <;> simp (disch:=(first | omega | (simp;omega))) only [go_sem,w64,ratsD,matD] <;> exact leafs)
          ·by_cases e:j=i
           ·subst e;rw [hcc];exact hc3
           ·exact hd2 j (by omega)
        ·obtain rfl:i=l.length:=by omega
         repeat' (first | refine sq ?_ | refine stp ?_ | refine blk_o (by decide) ?_ | (apply cb;(focus (simp (disch:=(first | omega | (simp;omega))) only [go_sem,w64];try exact rfl));refine cok ?_) | (refine rgT ?_;intro K hK) | (refine dA ?_;intro K hK) | (with_reducible refine hK _ ?_;clear hK K) | (refine stq ?_;simp (disch:=(first | omega | (simp;omega))) only [go_sem,w64]) | refine as1 ?_ | fail)
         (refine endA (r:=.d (.bool true)) ?_)
         exact ⟨by rw [hfe,sideL_yes hd2],rfl⟩
  ·have y2:decide (((x.length:Nat):Int)=(C.length:Nat))=false:=decide_eq_false h2
   repeat' (first | refine sq ?_ | refine stp ?_ | refine blk_o (by decide) ?_ | (apply cb;(focus (simp (disch:=(first | omega | (simp;omega))) only [go_sem,w64,lpD,y2];try exact rfl));refine cok ?_) | (refine rgT ?_;intro K hK) | (refine dA ?_;intro K hK) | (with_reducible refine hK _ ?_;clear hK K) | (refine stq ?_;simp (disch:=(first | omega | (simp;omega))) only [go_sem,w64,lpD,y2]) | refine as1 ?_ | fail)
   (refine endA (r:=.d (.bool false)) ?_)
   exact ⟨by unfold feasF;rw [decide_eq_false (by omega)];simp,rfl⟩
end
end Go.Proofs.YtkohkoiegmcghaaDoor
namespace Go.Proofs.YtkohkoiegmcghaaDoor
set_option linter.unusedSimpArgs false
set_option linter.unusedVariables false
open Go.RowKit
section
variable (A:List (List RatD)) (B Cc:List RatD) (rows:List (List RatD)) (right:List RatD) (sg:Int)
def leafF (ch:List Nat) (outs:List (List RatD)):List (List RatD):=match solF (ch.map (mx rows ·)) (ch.map (qx right ·)) with
 | none=>outs
 | some x=>if feasF A B Cc x sg=true then (if outs.any (fun y=>eqQ x y)=true then outs else outs ++ [x]) else outs
def chF:Nat→Nat→List Nat→List (List RatD)→List (List RatD)
 | 0,_,ch,outs=>leafF A B Cc rows right sg ch outs
 | d+1,k,ch,outs=>(List.range' k (rows.length - k)).foldl (fun o j=>chF d (j+1) (ch ++ [j]) o) outs
theorem leafF_len (ch:List Nat) (outs:List (List RatD)):(leafF A B Cc rows right sg ch outs).length≤outs.length+1:=by
 unfold leafF
 split
 ·omega
 ·split
  ·split
   ·omega
   ·simp
  ·omega
theorem leafF_mem {ch:List Nat} {outs:List (List RatD)} {y:List RatD} (h:y∈leafF A B Cc rows right sg ch outs):y∈outs∨y.length=ch.length:=by
 unfold leafF at h
 split at h
 ·exact .inl h
 ·rename_i x hx
  split at h
  ·split at h
   ·exact .inl h
   ·rcases List.mem_append.1 h with h | h
    ·exact .inl h
    ·right
     rw [List.mem_singleton.1 h]
     unfold solF at hx
     split at hx
     ·cases hx
     ·rw [outTo_len hx];simp
  ·exact .inl h
end
structure RowsOK (A:List (List RatD)) (B Cc:List RatD) (rows:List (List RatD)) (right:List RatD) (n:Nat):Prop where
 n1:1≤n
 n5:n≤5
 lp:lpV A B Cc=true
 cl:Cc.length=n
 T:rows.length≤10
 bl:right.length=rows.length
 rr:∀ i,i<rows.length→(mx rows i).length=n
 rv:∀ i,i<rows.length→vL (mx rows i)=true
 bv:vL right=true
theorem RowsOK.sys {A:List (List RatD)} {B Cc:List RatD} {rows:List (List RatD)} {right:List RatD} {n:Nat} (h:RowsOK A B Cc rows right n) {ch:List Nat} (hl:ch.length=n) (hc:∀ k∈ch,k<rows.length):SysOK (ch.map (mx rows ·)) (ch.map (qx right ·)) n:=by
 have hm:∀ i,i<n→mx (ch.map (mx rows ·)) i=mx rows (ch.getD i 0)∧ch.getD i 0<rows.length:=fun i hi=>by
  have hi2:i<ch.length:=by omega
  refine ⟨by simp [mx,List.getD,hi2],?_⟩
  exact hc _ (getD_mem hi2)
 refine ⟨h.n1,by have:=h.n5;omega,by simp [hl],by simp [hl],fun i hi=>?_,fun i hi=>?_,?_⟩
 ·rw [(hm i hi).1];exact h.rr _ (hm i hi).2
 ·rw [(hm i hi).1];exact h.rv _ (hm i hi).2
 ·unfold vL
  rw [List.all_eq_true]
  intro x hx
  obtain ⟨k,hk,rfl⟩:=List.mem_map.1 hx
  exact vL_at h.bv (by rw [h.bl];exact hc k hk)
def unitR (n i:Nat):List RatD:=(List.range n).map fun k=>⟨if i=k then 1 else 0,1⟩
def rowsF (A:List (List RatD)) (n:Nat):List (List RatD):=A ++ (List.range n).map (unitR n)
def rightF (B:List RatD) (n:Nat):List RatD:=B ++ List.replicate n ⟨0,1⟩
theorem unit_vL (n i:Nat):vL (unitR n i)=true:=by
 unfold vL unitR
 rw [List.all_eq_true]
 intro x hx
 obtain ⟨k,_,rfl⟩:=List.mem_map.1 hx
 by_cases h:i=k
 ·rw [if_pos h];decide
 ·rw [if_neg h];decide
theorem rows_ok {A:List (List RatD)} {B Cc:List RatD} (h:lpV A B Cc=true):RowsOK A B Cc (rowsF A Cc.length) (rightF B Cc.length) Cc.length:=by
 obtain ⟨h1,h2,h3,h4,h5⟩:=lpV_out h
 obtain ⟨h6,h7⟩:=matOK_out h3
 have hl:(rowsF A Cc.length).length=A.length+Cc.length:=by simp [rowsF]
 have hm:∀ i,i<(rowsF A Cc.length).length→mx (rowsF A Cc.length) i=if i<A.length then mx A i else unitR Cc.length (i - A.length):=fun i hi=>by
  by_cases e:i<A.length
  ·rw [if_pos e]
   simp [mx,rowsF,List.getD,List.getElem?_append,e]
  ·rw [if_neg e]
   have:i - A.length<Cc.length:=by omega
   simp [mx,rowsF,List.getD,List.getElem?_append,e,this]
 refine ⟨h1.1,h1.2,h,rfl,by omega,by simp [rowsF,rightF,h6],fun i hi=>?_,fun i hi=>?_,?_⟩
 ·rw [hm i hi]
  split
  ·rename_i e;exact (h7 i e).1
  ·simp [unitR]
 ·rw [hm i hi]
  split
  ·rename_i e;exact (h7 i e).2
  ·exact unit_vL _ _
 ·unfold vL rightF
  rw [List.all_append]
  have h8:B.all vR=true:=h4
  rw [h8,Bool.true_and,List.all_eq_true]
  intro x hx
  rw [(List.mem_replicate.1 hx).2]
  decide
def vertF (A:List (List RatD)) (B Cc:List RatD) (sg:Int):List (List RatD):=chF A B Cc (rowsF A Cc.length) (rightF B Cc.length) sg Cc.length 0 [] []
end Go.Proofs.YtkohkoiegmcghaaDoor
namespace Go.Proofs.YtkohkoiegmcghaaDoor
set_option linter.unusedSimpArgs false
set_option linter.unusedVariables false
attribute [local go_sem ↓] reduceIte
attribute [local go_sem] Nat.reduceEqDiff Nat.reduceLT Nat.reduceAdd Nat.reduceLeDiff Nat.reduceMul Nat.reduceBEq Nat.reduceSub reduceCtorEq Int.reduceLE Int.reduceNeg Int.reduceLT
open Go.RowKit
section
variable {P:Cx→Prop} {N:Nat} {Q:Exit→AS→Prop} {s:AS} {ty:TypeId→Option TyI}
theorem awp_drawS (ht:TabOK ty) (hm:Tryd.prog.follows .mixedOrders=true) {id:Nat} {l:List Oper} (n:Nat) {d0:Nat} {x0:Operand} {o0:Oper} (ho0:l[0]? = some o0) (hop0:o0.op=.move x0) (hd0:o0.dst=some d0) (hg0:o0.guard=none) (hn1:0<n) (hnl:n<l.length)
 (hB:drawB l ((List.range l.length).map (flAt l))=true) (hS:splitB l n=true)
 (h:∀ K0:AS→Prop,(∀ s,Q .normal s→K0 s)→∀ K:AS→Prop,(∀ s1,aops ty N l (l.drop n) s1 K0→K s1)→wops ty N l ((l.take n).drop 1) 1 (s.put d0 (ev N s x0)) K):AWp P N (.region id l.toArray true) Q s:=by
 intro X a w hN hP ⟨G,hr⟩
 subst hN
 have hr3:Rel X (s.put d0 (ev X.N s x0)) (a.put (some d0) (a.eval x0)) w.drew:=⟨G,hr.drew.put d0 (hr.drew.ev x0)⟩
 refine wp_drawSplit ht hm n ho0 hop0 hd0 hg0 hn1 hnl hB hS hr3 (h (Q .normal) (fun _ h=>h) _ fun _ h=>h) ?_
 intro s1 a1 w1 g h2 _
 exact aops_ok (X:=X) ht (Q:=OutQ fun e a' w'=>∃ s',Q e s'∧Rel X s' a' w') (fun s' _ _ h1 h2=>⟨rfl,s',h1,h2⟩) _ s1 a1 w1 g h2
end
theorem acall_two {s:AS} {d q1 q2:Nat} {r1 r2:List RatD} {K:AS→Prop} {f:FuncId} {avs args:List AV} {R:AV→List (List AV)→Prop} (hA:AFn f args [cQ r1,cQ r2] R) (hsub:ASubs [q1,q2] avs args) (hlt:d<1000000) (hne:q1 ≠ q2) (h1:s.ob q1=some (cQ r1)) (h2:s.ob q2=some (cQ r2)) (hd1:q1 ≠ d) (hd2:q2 ≠ d)
 (h:∀ r os,R r os→os.length≤3∧K ((s.call [q1,q2] d os).put d (renA [q1,q2] d r))):ACall f avs s (some d) K:=by
 have hnd:([q1,q2]:List Nat).Nodup:=by simp [hne]
 refine ⟨d,[q1,q2],args,_,R,rfl,hlt,hA,hsub,⟨_,_,_,rfl,h1,asubs_cQ _ _,_,_,_,rfl,h2,asubs_cQ _ _,rfl⟩,fun i hi e=>?_,fun i j hi hj e=>nodup_inj hnd hi hj e,fun r os hr=>h r os hr⟩
 have hm:=getD_mem hi
 rw [e] at hm
 rcases List.mem_cons.1 hm with hm | hm
 ·exact hd1 hm.symm
 ·exact hd2 (List.mem_singleton.1 hm).symm
section
variable {s:AS} {d q1 q2:Nat} {l1 l2:List RatD}
theorem call2_1 (h:q1 ≠ d):(s.call [q1,q2] d [cQ l1,cQ l2]).ob q1=some (cQ l1):=by
 simp only [AS.call]
 rw [if_neg h]
 simp only [obSel,if_true,renAs_cQ]
theorem call2_2 (h:q2 ≠ d) (hn:q1 ≠ q2):(s.call [q1,q2] d [cQ l1,cQ l2]).ob q2=some (cQ l2):=by
 simp only [AS.call]
 rw [if_neg h]
 simp only [obSel,if_true,if_neg (fun e:q2=q1=>hn e.symm),renAs_cQ]
theorem call2_o {q:Nat} (h:q ≠ d) (h1:q ≠ q1) (h2:q ≠ q2):(s.call [q1,q2] d [cQ l1,cQ l2]).ob q=(s.ob q).map (scrubs (fun g=>!(g == d)) (fun o=>!(o == d))):=by
 simp only [AS.call]
 rw [if_neg h]
 simp only [obSel,if_neg h1,if_neg h2]
end
theorem swapL_comm {α:Type} {l:List α} {i j:Nat} {d:α}:swapL l i j d=swapL l j i d:=by
 unfold swapL
 by_cases e:i=j
 ·rw [e]
 ·exact List.set_comm _ _ (fun h=>e h.symm)
abbrev whQ (l:List RatD):DV:=.wh 2 (l.map ratDV)
def ansW:Option (List RatD)→AV
 | some l=>.tup [.d (whQ l),.d (.bool true)]
 | none=>.tup [.d (whQ []),.d (.bool false)]
theorem implCopyQ (l:List RatD) (hl:l.length≤1048576):AFn 63 [.d (ratsD l)] [] (fun r os=>r=.buf 0 33 2 (l.map ratDV)∧os=[]):=by
 refine afn_of (rv:=[.tmp 2]) tyT_ok Tryd.func63 rfl (by decide +kernel) Tryd.ntmps63 rfl (by simp) ?_
 have hl2:(l.map ratDV).length≤1048576:=by rw [List.length_map];exact hl
 repeat' (first | refine sq ?_ | refine stp ?_ | refine blk_o (by decide) ?_ | (apply cb;(focus (simp (disch:=(first | omega | (simp;omega))) only [go_sem,w64,ratsD];try exact rfl));refine cok ?_) | (refine rgT ?_;intro K hK) | (refine dA ?_;intro K hK) | (with_reducible refine hK _ ?_;clear hK K) | (refine stq ?_;simp (disch:=(first | omega | (simp;omega))) only [go_sem,w64,ratsD]) | refine as1 ?_ | fail)
 refine endG 3 (r:=.buf 0 33 2 (l.map ratDV)) ⟨rfl,rfl⟩
set_option maxHeartbeats 4000000 in
theorem implSolveA (rows:List (List RatD)) (right:List RatD) (n:Nat) (hS:SysOK rows right n):AFn 85 [.d (matD rows),.d (ratsD right)] [] (fun r os=>r=ansW (solF rows right)∧os=[]):=by
 obtain ⟨hn1,hn6,hrl,hbl,hrr,hrv,hbv⟩:=hS
 have hm:=SysOK.mat ⟨hn1,hn6,hrl,hbl,hrr,hrv,hbv⟩
 refine afn_ofN (args:=[matD rows,ratsD right]) (rv:=[.tmp 4,.tmp 5]) tyT_ok Tryd.func85 rfl (by decide +kernel) Tryd.ntmps85 rfl (by simp) ?_
 have z6:decide ((6:Int)<(n:Nat))=false:=decide_eq_false (by omega)
 have zn:decide ((n:Int)=(n:Nat))=true:=decide_eq_true rfl
 have hbl2:(right.map ratDV).length=n:=by rw [List.length_map];exact hbl
 have hrl2:(rows.map ratsD).length=n:=by rw [List.length_map];exact hrl
 repeat' (first | refine sq ?_ | refine stp ?_ | refine blk_o (by decide) ?_ | (apply cb;(focus (simp (disch:=(first | omega | (simp;omega))) only [go_sem,w64,matD,z6,hbl2,hrl2,zn];try exact rfl));refine cok ?_) | (refine rgT ?_;intro K hK) | (refine dA ?_;intro K hK) | (with_reducible refine hK _ ?_;clear hK K) | (refine stq ?_;simp (disch:=(first | omega | (simp;omega))) only [go_sem,w64,matD,z6,hbl2,hrl2,zn]) | refine as1 ?_ | fail)
 (first | refine callA (allValidA right (by omega)) ?_ | refine callD (allValidA right (by omega)) ?_ | refine callE (allValidA right (by omega)) ?_ | refine callF (allValidA right (by omega)) ?_ ?_)
 rw [hbv]
 repeat' (first | refine sq ?_ | refine stp ?_ | refine blk_o (by decide) ?_ | (apply cb;(focus (simp (disch:=(first | omega | (simp;omega))) only [go_sem,w64];try exact rfl));refine cok ?_) | (with_reducible refine hK _ ?_;clear hK K) | (refine stq ?_;simp (disch:=(first | omega | (simp;omega))) only [go_sem,w64]) | refine as1 ?_ | fail)
 (refine awp_region' tyT_ok ?_;intro K hK;simp (disch:=(first | omega | (simp;omega))) only [go_sem,w64,matD,hbl2,hrl2])
 refine hK _ ?_;clear hK K
 repeat' (first | refine sq ?_ | refine stp ?_ | refine blk_o (by decide) ?_ | (apply cb;(focus (simp (disch:=(first | omega | (simp;omega))) only [go_sem,w64];try exact rfl));refine cok ?_) | (with_reducible refine hK _ ?_;clear hK K) | (refine stq ?_;simp (disch:=(first | omega | (simp;omega))) only [go_sem,w64]) | refine as1 ?_ | fail)
 refine awp_nilbuf 7 7 28 1 (by simp (disch:=(first | omega | (simp;omega))) only [go_sem,w64]) ?_
 repeat' (first | refine sq ?_ | refine stp ?_ | refine blk_o (by decide) ?_ | (apply cb;(focus (simp (disch:=(first | omega | (simp;omega))) only [go_sem,w64,matD,hbl2,hrl2];try exact rfl));refine cok ?_) | (refine rgT ?_;intro K hK) | (refine dA ?_;intro K hK) | (with_reducible refine hK _ ?_;clear hK K) | (refine stq ?_;simp (disch:=(first | omega | (simp;omega))) only [go_sem,w64,matD,hbl2,hrl2]) | refine as1 ?_ | fail)
 refine awp_loopw (fun mm s=>∃ (i:Nat) (ns:List Nat) (hs:List DV),mm=n - i∧i≤n∧ns.length=i∧ns.Nodup∧HdOK (n+1) hs ns∧s=mkB [(1,.d (ratsD right)),(6,.d (.int (n:Nat))),(7,.buf 7 28 1 hs),(32,.d (matD rows)),(33,.d (.int (n:Nat))),(34,.d (.int (i:Nat)))] ns ((augF rows right).take i)) ?_ ?_
 ·refine ⟨_,_,?_,0,[],[],rfl,Nat.zero_le _,rfl,List.nodup_nil,.nil,rfl⟩
  refine sle_mkB0 (by simp (disch:=(first | omega | (simp;omega))) only [go_sem,w64] <;> exact leafs)
 ·rintro mm s ⟨i,ns,hs,rfl,hi,hnl,hnd,hH,rfl⟩
  repeat' (first | refine sq ?_ | refine stp ?_ | refine blk_o (by decide) ?_ | (apply cb;(focus (simp (disch:=(first | omega | (simp;omega))) only [go_sem,w64];try exact rfl));refine cok ?_) | (refine rgT ?_;intro K hK) | (refine dA ?_;intro K hK) | (with_reducible refine hK _ ?_;clear hK K) | (refine stq ?_;simp (disch:=(first | omega | (simp;omega))) only [go_sem,w64]) | refine as1 ?_ | fail)
  refine awp_if (p:=(i:Int)<(n:Nat)) (by simp (disch:=(first | omega | (simp;omega))) only [go_sem,w64]) ?_ ?_ <;> intro hc
  ·have hi2:i<n:=by omega
   have lr:=hrr i hi2
   have g2:(rows.map ratsD).getD i (.bool false)=ratsD (mx rows i):=getDm (by omega)
   have lr2:((mx rows i).map ratDV).length=n:=by rw [List.length_map];exact lr
   repeat' (first | refine sq ?_ | refine stp ?_ | refine blk_o (by decide) ?_ | (apply cb;(focus (simp (disch:=(first | omega | (simp;omega))) only [go_sem,w64,matD,ratsD,g2,hrl2,lr2,zn];try exact rfl));refine cok ?_) | (refine rgT ?_;intro K hK) | (refine dA ?_;intro K hK) | (with_reducible refine hK _ ?_;clear hK K) | (refine stq ?_;simp (disch:=(first | omega | (simp;omega))) only [go_sem,w64,matD,ratsD,g2,hrl2,lr2,zn]) | refine as1 ?_ | fail)
   (first | refine callA (allValidA (mx rows i) (by omega)) ?_ | refine callD (allValidA (mx rows i) (by omega)) ?_ | refine callE (allValidA (mx rows i) (by omega)) ?_ | refine callF (allValidA (mx rows i) (by omega)) ?_ ?_)
   rw [hrv i hi2]
   repeat' (first | refine sq ?_ | refine stp ?_ | refine blk_o (by decide) ?_ | (apply cb;(focus (simp (disch:=(first | omega | (simp;omega))) only [go_sem,w64];try exact rfl));refine cok ?_) | (refine rgT ?_;intro K hK) | (with_reducible refine hK _ ?_;clear hK K) | (refine stq ?_;simp (disch:=(first | omega | (simp;omega))) only [go_sem,w64]) | refine as1 ?_ | fail)
   refine awp_weak (sle_mkB (tl:=[(1,.d (ratsD right)),(6,.d (.int (n:Nat))),(7,.buf 7 28 1 hs),(8,.d (.int (i:Nat))),(9,.d (ratsD (mx rows i))),(32,.d (matD rows)),(33,.d (.int (n:Nat))),(34,.d (.int (i:Nat)))]) (ns:=ns) (R:=(augF rows right).take i) (by simp (disch:=(first | omega | (simp;omega))) only [go_sem,w64] <;> exact leafs) (fun b=>by simp (disch:=(first | omega | (simp;omega))) only [go_sem,w64]) hH.nbs) ?_
   have g1:(right.map ratDV).getD i (.bool false)=ratDV (qx right i):=getDq (by omega)
   refine awp_drawRow [49,50,51,52,53,54,55,56] tyT_ok (by kernel_rfl) 9 56 (d0:=48) rfl rfl rfl rfl (by decide) (by decide) (by kernel_rfl) (by kernel_rfl) (by decide) (by decide) (by kernel_rfl) (by decide) (s':=mkS [(1,.d (ratsD right)),(8,.d (.int (i:Nat))),(9,.d (ratsD (mx rows i)))] []) (sle_mk (by simp (disch:=(first | omega | (simp;omega))) only [go_sem,w64] <;> exact leafs) trivial) (by simp (disch:=(first | omega | (simp;omega))) only [go_sem,w64]) (fun _ h=>h) ?_
   intro K0 hK0 K hK
   simp only [List.take_succ_cons,List.take_zero,List.drop_succ_cons,List.drop_zero]
   repeat' (first | refine sq ?_ | refine stp ?_ | refine blk_o (by decide) ?_ | (apply cb;(focus (simp (disch:=(first | omega | (simp;omega))) only [go_sem,w64,g1,g2,hbl2,hrl2,lr2];try exact rfl));refine cok ?_) | (refine rgT ?_;intro K hK) | (refine dA ?_;intro K hK) | (with_reducible refine hK _ ?_;clear hK K) | (refine stq ?_;simp (disch:=(first | omega | (simp;omega))) only [go_sem,w64,g1,g2,hbl2,hrl2,lr2]) | refine as1 ?_ | fail)
   (first | refine callA (implCopyQ (mx rows i) (by omega)) ?_ | refine callD (implCopyQ (mx rows i) (by omega)) ?_ | refine callE (implCopyQ (mx rows i) (by omega)) ?_ | refine callF (implCopyQ (mx rows i) (by omega)) ?_ ?_)
   repeat' (first | refine sq ?_ | refine stp ?_ | refine blk_o (by decide) ?_ | (apply cb;(focus (simp (disch:=(first | omega | (simp;omega))) only [go_sem,w64,ratsD,g1,g2,hbl2,hrl2,lr2,ratDV];try exact rfl));refine cok ?_) | (refine rgT ?_;intro K hK) | (refine dA ?_;intro K hK) | (with_reducible refine hK _ ?_;clear hK K) | (refine stq ?_;simp (disch:=(first | omega | (simp;omega))) only [go_sem,w64,ratsD,g1,g2,hbl2,hrl2,lr2,ratDV]) | refine as1 ?_ | fail)
   have hrow:(mx rows i).map ratDV ++ [ratDV (qx right i)]=(mx rows i ++ [qx right i]).map ratDV:=by simp
   refine ⟨50,_,2,(mx rows i ++ [qx right i]).map ratDV,by simp (disch:=(first | omega | (simp;omega))) only [go_sem,w64];rw [← hrow];rfl,by simp,by decide,(rats_el _).1,(rats_el _).2,fun b c hb hc1 hc2=>?_⟩
   rw [flat_rats]
   clear hrow
   revert hK0
   revert K0
   intro K hK
   have hbn:obN ns ((augF rows right).take i) (nb b)=none:=by rw [← mkB_ob];exact hb
   have hlR:((augF rows right).take i).length=ns.length:=by rw [List.length_take,augF_len];omega
   have hnot:=obN_mem hlR hnd hbn
   have hhl:hs.length=i:=hH.len.trans hnl
   have lrow:(mx rows i ++ [qx right i]).length=n+1:=by rw [List.length_append,lr];rfl
   have hc3:n+1≤c:=by rw [List.length_map,lrow] at hc1;exact hc1
   repeat' (first | refine sq ?_ | refine stp ?_ | refine blk_o (by decide) ?_ | (apply cb;(focus (simp (disch:=(first | omega | (simp;omega))) only [go_sem,w64,hdV,lrow];try exact rfl));refine cok ?_) | (refine rgT ?_;intro K hK) | (refine dA ?_;intro K hK) | (with_reducible refine hK _ ?_;clear hK K) | (refine stq ?_;simp (disch:=(first | omega | (simp;omega))) only [go_sem,w64,hdV,lrow]) | refine as1 ?_ | fail)
   refine ⟨n - (i+1),_,by omega,?_,i+1,ns ++ [nb b],hs ++ [hdV b (n+1) c],rfl,by omega,by rw [List.length_append,hnl];rfl,?_,hH.snoc hc3 hc2,rfl⟩
   ·refine sle_mkB (by simp (disch:=(first | omega | (simp;omega))) only [go_sem,w64] <;> exact leafs) (fun b'=>?_) (hH.snoc hc3 hc2).nbs
    rw [augF_take (by omega),obN_snoc hlR hnot]
    simp (disch:=(first | omega | (simp;omega))) only [go_sem,w64]
    by_cases e:b'=b
    ·simp only [if_pos e,Option.map_some,cQ_scr]
    ·simp only [if_neg e,obN_scr]
   ·rw [List.nodup_append]
    exact ⟨hnd,by simp,fun x hx y hy e=>hnot (by rw [List.mem_singleton] at hy;rw [← hy,← e];exact hx)⟩
  ·obtain rfl:n=i:=by omega
   have hSh:Shp n (n+1) (augF rows right):=SysOK.aug ⟨hn1,hn6,hrl,hbl,hrr,hrv,hbv⟩
   have hsol:∀ j,j≤n→gsF n (augF rows right) j=none→solF rows right=none:=fun j hj h=>by
    unfold solF;rw [hbl,gsF_none h n hj]
   rw [List.take_of_length_le (by rw [augF_len];omega)]
   repeat' (first | refine sq ?_ | refine stp ?_ | refine blk_o (by decide) ?_ | (apply cb;(focus (simp (disch:=(first | omega | (simp;omega))) only [go_sem,w64];try exact rfl));refine cok ?_) | (with_reducible refine hK _ ?_;clear hK K) | (refine stq ?_;simp (disch:=(first | omega | (simp;omega))) only [go_sem,w64]) | refine as1 ?_ | fail)
   refine awp_weak (sle_mkB (tl:=[(6,.d (.int (n:Nat))),(7,.buf 7 28 1 hs)]) (ns:=ns) (R:=augF rows right) (by simp (disch:=(first | omega | (simp;omega))) only [go_sem,w64] <;> exact leafs) (fun b=>by simp (disch:=(first | omega | (simp;omega))) only [go_sem,w64]) hH.nbs) ?_
   obtain ⟨M0,hM1,hM2⟩:∃ M0:Mat n (n+1),M0.ns=ns∧M0.R=augF rows right:=⟨⟨ns,augF rows right,hnl,hSh,hnd,fun x hx=>by obtain ⟨b,rfl⟩:=hH.nbs x hx;rw [nb_eq];omega⟩,rfl,rfl⟩
   rw [← hM1,← hM2]
   rw [← hM1] at hH
   have h00:gsF n (augF rows right) 0=some M0.R:=by rw [hM2];rfl
   clear hM1 hM2 hnl hnd
   refine awp_matM (tl':=[(6,.d (.int (n:Nat))),(7,.arr 500000 1 n)]) 7 M0 (fun _ h=>h) (by decide) (by rfl) hH (by omega) ?_ (by simp (disch:=(first | omega | (simp;omega))) only [go_sem,w64] <;> exact leafs) ?_
   ·intro t' ht'
    simp only [lkT]
    split
    ·rfl
    ·first | trivial | (rw [if_neg ht'];trivial)
   clear hH hs ns
   repeat' (first | refine sq ?_ | refine stp ?_ | refine blk_o (by decide) ?_ | (apply cb;(focus (simp (disch:=(first | omega | (simp;omega))) only [go_sem,w64];try exact rfl));refine cok ?_) | (refine rgT ?_;intro K hK) | (refine dA ?_;intro K hK) | (with_reducible refine hK _ ?_;clear hK K) | (refine stq ?_;simp (disch:=(first | omega | (simp;omega))) only [go_sem,w64]) | refine as1 ?_ | fail)
   refine awp_loopw (fun mm s=>∃ (p:Nat) (M:Mat n (n+1)),mm=n - p∧p≤n∧gsF n (augF rows right) p=some M.R∧s=mkM [(6,.d (.int (n:Nat))),(7,.arr 500000 1 n),(10,.d (.int (p:Nat)))] [] M) ?_ ?_
   ·refine ⟨_,_,?_,0,M0,rfl,Nat.zero_le _,h00,rfl⟩
    refine sle_mkM (by simp (disch:=(first | omega | (simp;omega))) only [go_sem,w64] <;> exact leafs) trivial (by simp (disch:=(first | omega | (simp;omega))) only [go_sem,w64]) (fun i hi=>by simp (disch:=(first | omega | (simp;omega))) only [go_sem,w64])
   ·clear h00 M0
    rintro mm s ⟨p,M,rfl,hp,hG,rfl⟩
    repeat' (first | refine sq ?_ | refine stp ?_ | refine blk_o (by decide) ?_ | (apply cb;(focus (simp (disch:=(first | omega | (simp;omega))) only [go_sem,w64];try exact rfl));refine cok ?_) | (refine rgT ?_;intro K hK) | (refine dA ?_;intro K hK) | (with_reducible refine hK _ ?_;clear hK K) | (refine stq ?_;simp (disch:=(first | omega | (simp;omega))) only [go_sem,w64]) | refine as1 ?_ | fail)
    refine awp_if (p:=(p:Int)<(n:Nat)) (by simp (disch:=(first | omega | (simp;omega))) only [go_sem,w64]) ?_ ?_ <;> intro hc
    ·have hp2:p<n:=by omega
     have hG1:gsF n (augF rows right) (p+1)=match pvF M.R p n with | none=>none | some k=>stF (swapL M.R p k []) p:=by simp only [gsF,hG];rfl
     repeat' (first | refine sq ?_ | refine stp ?_ | refine blk_o (by decide) ?_ | (apply cb;(focus (simp (disch:=(first | omega | (simp;omega))) only [go_sem,w64];try exact rfl));refine cok ?_) | (refine rgT ?_;intro K hK) | (refine dA ?_;intro K hK) | (with_reducible refine hK _ ?_;clear hK K) | (refine stq ?_;simp (disch:=(first | omega | (simp;omega))) only [go_sem,w64]) | refine as1 ?_ | fail)
     refine awp_loopw (fun mm s=>∃ (k:Nat),mm=n - k∧p≤k∧k≤n∧(∀ j,p≤j→j<k→(qx (M.row j) p).num=0)∧s=mkM [(6,.d (.int (n:Nat))),(7,.arr 500000 1 n),(10,.d (.int (p:Nat))),(11,.d (.int (k:Nat)))] [] M) ?_ ?_
     ·refine ⟨_,_,?_,p,rfl,Nat.le_refl _,hp,fun j h1 h2=>by omega,rfl⟩
      refine sle_mkM (by simp (disch:=(first | omega | (simp;omega))) only [go_sem,w64] <;> exact leafs) trivial (by simp (disch:=(first | omega | (simp;omega))) only [go_sem,w64]) (fun i hi=>by simp (disch:=(first | omega | (simp;omega))) only [go_sem,w64])
     ·rintro mm s ⟨k,rfl,hk1,hk2,hz,rfl⟩
      by_cases hkn:k<n
      ·have zk:decide ((k:Int)<(n:Nat))=true:=decide_eq_true (by omega)
       have lk:=rowM_len (M:=M) hkn
       have e1:(cQ (M.row k)).getD (p*2+0) .junk=.d (.int (qx (M.row k) p).num):=cQ_num (M.row k) p (by omega) .junk
       have nk:=cQ_len (M.row k)
       by_cases hzk:(qx (M.row k) p).num=0
       ·have z2:decide ((qx (M.row k) p).num=0)=true:=decide_eq_true hzk
        repeat' (first | refine sq ?_ | refine stp ?_ | refine blk_o (by decide) ?_ | (apply cb;(focus (simp (disch:=(first | omega | (simp;omega))) only [go_sem,w64,zk,e1,nk,lk,z2];try exact rfl));refine cok ?_) | (refine rgT ?_;intro K hK) | (refine dA ?_;intro K hK) | (with_reducible refine hK _ ?_;clear hK K) | (refine stq ?_;simp (disch:=(first | omega | (simp;omega))) only [go_sem,w64,zk,e1,nk,lk,z2]) | refine as1 ?_ | fail)
        refine ⟨n - (k+1),_,by omega,?_,k+1,rfl,by omega,by omega,fun j h1 h2=>?_,rfl⟩
        ·refine sle_mkM (by simp (disch:=(first | omega | (simp;omega))) only [go_sem,w64] <;> exact leafs) trivial (by simp (disch:=(first | omega | (simp;omega))) only [go_sem,w64]) (fun i hi=>by simp (disch:=(first | omega | (simp;omega))) only [go_sem,w64])
        ·by_cases e:j=k
         ·rw [e];exact hzk
         ·exact hz j h1 (by omega)
       ·have z2:decide ((qx (M.row k) p).num=0)=false:=decide_eq_false hzk
        have z3:decide ((k:Int)=(n:Nat))=false:=decide_eq_false (by omega)
        have hpv:pvF M.R p n=some k:=pv_some hk1 hkn hz hzk
        rw [hpv] at hG1
        replace hG1:gsF n (augF rows right) (p+1)=stF (swapL M.R p k []) p:=hG1
        have hlh:=hdrM_len M
        have hgp:=hdrM_getD (M:=M) hp2
        have hgk:=hdrM_getD (M:=M) hkn
        repeat' (first | refine sq ?_ | refine stp ?_ | refine blk_o (by decide) ?_ | (apply cb;(focus (simp (disch:=(first | omega | (simp;omega))) only [go_sem,w64,zk,e1,nk,lk,z2,z3];try exact rfl));refine cok ?_) | (refine rgT ?_;intro K hK) | (with_reducible refine hK _ ?_;clear hK K) | (refine stq ?_;simp (disch:=(first | omega | (simp;omega))) only [go_sem,w64,zk,e1,nk,lk,z2,z3]) | refine as1 ?_ | fail)
        refine awp_draw tyT_ok (by kernel_rfl) (by kernel_rfl) ?_
        intro K hK
        repeat' (first | refine sq ?_ | refine stp ?_ | refine blk_o (by decide) ?_ | (apply cb;(focus (simp (disch:=(first | omega | (simp;omega))) only [go_sem,w64,hlh,hgp,hgk];try exact rfl));refine cok ?_) | (refine rgT ?_;intro K hK) | (with_reducible refine hK _ ?_;clear hK K) | (refine stq ?_;simp (disch:=(first | omega | (simp;omega))) only [go_sem,w64,hlh,hgp,hgk]) | refine as1 ?_ | fail)
        have hlh2:((M.hdr.set p (.arr (M.nm k) 2 (n+1))).length)=n:=by rw [List.length_set];exact hlh
        repeat' (first | refine sq ?_ | refine stp ?_ | refine blk_o (by decide) ?_ | (apply cb;(focus (simp (disch:=(first | omega | (simp;omega))) only [go_sem,w64,hlh,hgp,hgk,hlh2];try exact rfl));refine cok ?_) | (refine rgT ?_;intro K hK) | (with_reducible refine hK _ ?_;clear hK K) | (refine stq ?_;simp (disch:=(first | omega | (simp;omega))) only [go_sem,w64,hlh,hgp,hgk,hlh2]) | refine as1 ?_ | fail)
        refine awp_loopw (fun mm s=>∃ (i:Nat) (M':Mat n (n+1)),mm=n - i∧i≤n∧stTo (swapL M.R p k []) p i=some M'.R∧s=mkM [(6,.d (.int (n:Nat))),(7,.arr 500000 1 n),(10,.d (.int (p:Nat))),(12,.d (.int (i:Nat)))] [] M') ?_ ?_
        ·refine ⟨_,_,?_,0,M.swap k p hkn hp2,rfl,Nat.zero_le _,by rw [swapL_comm];rfl,rfl⟩
         refine sle_mkM (by simp (disch:=(first | omega | (simp;omega))) only [go_sem,w64] <;> exact leafs) trivial ?_ (fun i hi=>?_)
         ·rw [← swapM_hdr]
          simp (disch:=(first | omega | (simp;omega))) only [go_sem,w64]
         ·rw [swapM_nm,swapM_row]
          have hs9:(if i=k then p else if i=p then k else i)<n:=by split <;> (try split) <;> omega
          generalize (if i=k then p else if i=p then k else i)=q at hs9 ⊢
          simp (disch:=(first | omega | (simp;omega))) only [go_sem,w64]
        ·rintro mm s ⟨i,M',rfl,hi,hst,rfl⟩
         repeat' (first | refine sq ?_ | refine stp ?_ | refine blk_o (by decide) ?_ | (apply cb;(focus (simp (disch:=(first | omega | (simp;omega))) only [go_sem,w64];try exact rfl));refine cok ?_) | (refine rgT ?_;intro K hK) | (with_reducible refine hK _ ?_;clear hK K) | (refine stq ?_;simp (disch:=(first | omega | (simp;omega))) only [go_sem,w64]) | refine as1 ?_ | fail)
         refine awp_if (p:=(i:Int)<(n:Nat)) (by simp (disch:=(first | omega | (simp;omega))) only [go_sem,w64]) ?_ ?_ <;> intro hc2
         ·have hi2:i<n:=by omega
          have hs:stTo (swapL M.R p k []) p (i+1)=if i=p∨(qx (mx M'.R i) p).num=0 then some M'.R else match elF (mx M'.R i) (mx M'.R p) p with | some r=>some (M'.R.set i r) | none=>none:=by simp only [stTo,hst];rfl
          have li:=rowM_len (M:=M') hi2
          have ni:=cQ_len (M'.row i)
          have e2:(cQ (M'.row i)).getD (p*2+0) .junk=.d (.int (qx (M'.row i) p).num):=cQ_num (M'.row i) p (by omega) .junk
          repeat' (first | refine sq ?_ | refine stp ?_ | refine blk_o (by decide) ?_ | (apply cb;(focus (simp (disch:=(first | omega | (simp;omega))) only [go_sem,w64];try exact rfl));refine cok ?_) | (refine rgT ?_;intro K hK) | (with_reducible refine hK _ ?_;clear hK K) | (refine stq ?_;simp (disch:=(first | omega | (simp;omega))) only [go_sem,w64]) | refine as1 ?_ | fail)
          refine awp_drawS tyT_ok (by kernel_rfl) 24 rfl rfl rfl rfl (by decide) (by decide) (by kernel_rfl) (by kernel_rfl) ?_
          intro K0 hK0 K hK
          simp only [List.take_succ_cons,List.take_zero,List.drop_succ_cons,List.drop_zero]
          by_cases hip:i=p
          ·have z1:decide ((i:Int)=(p:Nat))=true:=decide_eq_true (by omega)
           rw [if_pos (.inl hip)] at hs
           repeat' (first | refine sq ?_ | refine stp ?_ | refine blk_o (by decide) ?_ | (apply cb;(focus (simp (disch:=(first | omega | (simp;omega))) only [go_sem,w64,z1];try exact rfl));refine cok ?_) | (refine rgT ?_;intro K hK) | (with_reducible refine hK _ ?_;clear hK K) | (refine stq ?_;simp (disch:=(first | omega | (simp;omega))) only [go_sem,w64,z1]) | refine as1 ?_ | fail)
           revert hK0
           revert K0
           intro K hK
           repeat' (first | refine sq ?_ | refine stp ?_ | refine blk_o (by decide) ?_ | (apply cb;(focus (simp (disch:=(first | omega | (simp;omega))) only [go_sem,w64,z1];try exact rfl));refine cok ?_) | (refine rgT ?_;intro K hK) | (with_reducible refine hK _ ?_;clear hK K) | (refine stq ?_;simp (disch:=(first | omega | (simp;omega))) only [go_sem,w64,z1]) | refine as1 ?_ | fail)
           refine ⟨n - (i+1),_,by omega,?_,i+1,M',rfl,by omega,hs,rfl⟩
           refine sle_mkM (by simp (disch:=(first | omega | (simp;omega))) only [go_sem,w64] <;> exact leafs) trivial (by simp (disch:=(first | omega | (simp;omega))) only [go_sem,w64]) (fun i hi=>by simp (disch:=(first | omega | (simp;omega))) only [go_sem,w64])
          ·have z1:decide ((i:Int)=(p:Nat))=false:=decide_eq_false (by omega)
           by_cases hz9:(qx (M'.row i) p).num=0
           ·have z9:decide ((qx (M'.row i) p).num=0)=true:=decide_eq_true hz9
            rw [if_pos (.inr hz9)] at hs
            repeat' (first | refine sq ?_ | refine stp ?_ | refine blk_o (by decide) ?_ | (apply cb;(focus (simp (disch:=(first | omega | (simp;omega))) only [go_sem,w64,z1,e2,z9,ni,li];try exact rfl));refine cok ?_) | (refine rgT ?_;intro K hK) | (with_reducible refine hK _ ?_;clear hK K) | (refine stq ?_;simp (disch:=(first | omega | (simp;omega))) only [go_sem,w64,z1,e2,z9,ni,li]) | refine as1 ?_ | fail)
            revert hK0
            revert K0
            intro K hK
            repeat' (first | refine sq ?_ | refine stp ?_ | refine blk_o (by decide) ?_ | (apply cb;(focus (simp (disch:=(first | omega | (simp;omega))) only [go_sem,w64,z1,z9];try exact rfl));refine cok ?_) | (refine rgT ?_;intro K hK) | (with_reducible refine hK _ ?_;clear hK K) | (refine stq ?_;simp (disch:=(first | omega | (simp;omega))) only [go_sem,w64,z1,z9]) | refine as1 ?_ | fail)
            refine ⟨n - (i+1),_,by omega,?_,i+1,M',rfl,by omega,hs,rfl⟩
            refine sle_mkM (by simp (disch:=(first | omega | (simp;omega))) only [go_sem,w64] <;> exact leafs) trivial (by simp (disch:=(first | omega | (simp;omega))) only [go_sem,w64]) (fun i hi=>by simp (disch:=(first | omega | (simp;omega))) only [go_sem,w64])
           ·have z9:decide ((qx (M'.row i) p).num=0)=false:=decide_eq_false hz9
            rw [if_neg (fun h=>h.elim hip hz9)] at hs
            repeat' (first | refine sq ?_ | refine stp ?_ | refine blk_o (by decide) ?_ | (apply cb;(focus (simp (disch:=(first | omega | (simp;omega))) only [go_sem,w64,z1,e2,z9,ni,li];try exact rfl));refine cok ?_) | (refine rgT ?_;intro K hK) | (with_reducible refine hK _ ?_;clear hK K) | (refine stq ?_;simp (disch:=(first | omega | (simp;omega))) only [go_sem,w64,z1,e2,z9,ni,li]) | refine as1 ?_ | fail)
            revert hK0
            revert K0
            intro K hK
            repeat' (first | refine sq ?_ | refine stp ?_ | refine blk_o (by decide) ?_ | (apply cb;(focus (simp (disch:=(first | omega | (simp;omega))) only [go_sem,w64,z1,z9];try exact rfl));refine cok ?_) | (refine rgT ?_;intro K hK) | (with_reducible refine hK _ ?_;clear hK K) | (refine stq ?_;simp (disch:=(first | omega | (simp;omega))) only [go_sem,w64,z1,z9]) | refine as1 ?_ | fail)
            have lp:=rowM_len (M:=M') hp2
            have hE:=eliminateA (M'.row i) (M'.row p) p (by omega) (by omega) (by omega)
            rw [li,lp] at hE
            have hnn:M'.nm i ≠ M'.nm p:=fun e=>hip ((nmM_inj hi2 hp2).mp e)
            have hn1':M'.nm i ≠ 128:=fun e=>(nmM_ne hi2 (by decide)).mp e
            have hn2':M'.nm p ≠ 128:=fun e=>(nmM_ne hp2 (by decide)).mp e
            refine acall_two hE (by (repeat (first | exact ASubs.nil | refine ASubs.cons (by first | exact ASub.d _ | exact ASub.dd (dle_wh _ _) | exact ASub.dd (dle_rowsV _) | exact ASub.dd (dle_rowsW _) | exact ASub.dd (dle_relW _ _) | exact ASub.bufd _ _ (dle_rowsV _) | exact ASub.nil _ | exact ASub.nn | exact ASub.buf _ _ _ _ | exact ASub.loc _ | exact ASub.ptr _ _ _ rfl | exact ASub.arr _ _ _ _ rfl | exact ASub.any _ | exact ASub.std rfl (dle_refl _)) ?_));done) (by decide) hnn (by simp (disch:=(first | omega | (simp;omega))) only [go_sem,w64]) (by simp (disch:=(first | omega | (simp;omega))) only [go_sem,w64]) hn1' hn2' (fun r os hr=>?_)
            obtain ⟨row',hl',rfl,rfl,hx⟩:=hr
            refine ⟨by simp,?_⟩
            have hc1:=fun s:AS=>call2_1 (s:=s) (q2:=M'.nm p) (l1:=row') (l2:=M'.row p) hn1'
            have hc2':=fun s:AS=>call2_2 (s:=s) (l1:=row') (l2:=M'.row p) hn2' hnn
            have hn3:(500000:Nat) ≠ M'.nm i:=fun e=>(ne_nmM hi2 (by decide)).mp e
            have hn4:(500000:Nat) ≠ M'.nm p:=fun e=>(ne_nmM hp2 (by decide)).mp e
            have hc3:=fun s:AS=>call2_o (s:=s) (l1:=row') (l2:=M'.row p) (d:=128) (show (500000:Nat) ≠ 128 by decide) hn3 hn4
            cases hel:elF (M'.row i) (M'.row p) p with
            | none =>
             have hs2:stTo (swapL M.R p k []) p (i+1)=none:=by rw [hs];show (match elF (M'.row i) (M'.row p) p with | some r=>some (M'.R.set i r) | none=>none)=none;rw [hel]
             have hF:stF (swapL M.R p k []) p=none:=by unfold stF;rw [swapL_len,M.hs.1];exact stTo_none hs2 n (by omega)
             rw [hF] at hG1
             repeat' (first | refine sq ?_ | refine stp ?_ | refine blk_o (by decide) ?_ | (apply cb;(focus (simp (disch:=(first | omega | (simp;omega))) only [go_sem,w64,callM_tm,Option.isSome_none,Bool.not_false];try exact rfl));refine cok ?_) | (refine rgT ?_;intro K hK) | (refine dA ?_;intro K hK) | (with_reducible refine hK _ ?_;clear hK K) | (refine stq ?_;simp (disch:=(first | omega | (simp;omega))) only [go_sem,w64,callM_tm,Option.isSome_none,Bool.not_false]) | refine as1 ?_ | fail)
             (refine endA (r:=.tup [.d (.wh 2 []),.d (.bool false)]) ?_)
             exact ⟨by rw [hsol (p+1) (by omega) hG1];rfl,rfl⟩
            | some r2 =>
             rw [hel] at hx
             obtain rfl:=hx r2 rfl
             have hs2:stTo (swapL M.R p k []) p (i+1)=some (M'.R.set i row'):=by rw [hs];show (match elF (M'.row i) (M'.row p) p with | some r=>some (M'.R.set i r) | none=>none)=_;rw [hel]
             have hR2:Shp n (n+1) (M'.R.set i row'):=M'.hs.set hi2 (by omega)
             repeat' (first | refine sq ?_ | refine stp ?_ | refine blk_o (by decide) ?_ | (apply cb;(focus (simp (disch:=(first | omega | (simp;omega))) only [go_sem,w64,callM_tm,Option.isSome_some,Bool.not_true];try exact rfl));refine cok ?_) | (refine rgT ?_;intro K hK) | (refine dA ?_;intro K hK) | (with_reducible refine hK _ ?_;clear hK K) | (refine stq ?_;simp (disch:=(first | omega | (simp;omega))) only [go_sem,w64,callM_tm,Option.isSome_some,Bool.not_true]) | refine as1 ?_ | fail)
             refine ⟨n - (i+1),_,by omega,?_,i+1,M'.withR _ hR2,rfl,by omega,hs2,rfl⟩
             refine sle_mkM (by simp (disch:=(first | omega | (simp;omega))) only [go_sem,w64] <;> exact leafs) trivial ?_ (fun i' hi'=>?_)
             ·simp only [put_ob]
              rw [hc3]
              refine Eq.trans (b:=some M'.hdr) (by simp (disch:=(first | omega | (simp;omega))) only [go_sem,w64]) rfl
             ·have hq:((M'.withR _ hR2).row i')=if i'=i then row' else M'.row i':=mx_set (by rw [M'.hs.1];exact hi2)
              have hqn:(M'.withR _ hR2).nm i'=M'.nm i':=rfl
              rw [hq,hqn]
              simp only [put_ob]
              by_cases e1:i'=i
              ·subst e1
               rw [if_pos rfl,hc1]
              ·rw [if_neg e1]
               by_cases e2:i'=p
               ·subst e2
                rw [hc2']
               ·have hm1:M'.nm i' ≠ M'.nm i:=fun e=>e1 ((nmM_inj hi' hi2).mp e)
                have hm2:M'.nm i' ≠ M'.nm p:=fun e=>e2 ((nmM_inj hi' hp2).mp e)
                rw [call2_o (fun e=>(nmM_ne hi' (by decide)).mp e) hm1 hm2]
                simp (disch:=(first | omega | (simp;omega))) only [go_sem,w64]
         ·obtain rfl:n=i:=by omega
          have hF:stF (swapL M.R p k []) p=some M'.R:=by unfold stF;rw [swapL_len,M.hs.1];exact hst
          rw [hF] at hG1
          repeat' (first | refine sq ?_ | refine stp ?_ | refine blk_o (by decide) ?_ | (apply cb;(focus (simp (disch:=(first | omega | (simp;omega))) only [go_sem,w64];try exact rfl));refine cok ?_) | (refine rgT ?_;intro K hK) | (with_reducible refine hK _ ?_;clear hK K) | (refine stq ?_;simp (disch:=(first | omega | (simp;omega))) only [go_sem,w64]) | refine as1 ?_ | fail)
          refine ⟨n - (p+1),_,by omega,?_,p+1,M',rfl,by omega,hG1,rfl⟩
          refine sle_mkM (by simp (disch:=(first | omega | (simp;omega))) only [go_sem,w64] <;> exact leafs) trivial (by simp (disch:=(first | omega | (simp;omega))) only [go_sem,w64]) (fun i hi=>by simp (disch:=(first | omega | (simp;omega))) only [go_sem,w64])
      ·obtain rfl:k=n:=by omega
       have zk:decide ((k:Int)<(k:Nat))=false:=decide_eq_false (by omega)
       have z3:decide ((k:Int)=(k:Nat))=true:=decide_eq_true rfl
       have hpv:pvF M.R p k=none:=pv_none hz
       rw [hpv] at hG1
       repeat' (first | refine sq ?_ | refine stp ?_ | refine blk_o (by decide) ?_ | (apply cb;(focus (simp (disch:=(first | omega | (simp;omega))) only [go_sem,w64,zk,z3];try exact rfl));refine cok ?_) | (refine rgT ?_;intro K hK) | (refine dA ?_;intro K hK) | (with_reducible refine hK _ ?_;clear hK K) | (refine stq ?_;simp (disch:=(first | omega | (simp;omega))) only [go_sem,w64,zk,z3]) | refine as1 ?_ | fail)
       (refine endA (r:=.tup [.d (.wh 2 []),.d (.bool false)]) ?_)
       exact ⟨by rw [hsol (p+1) (by omega) hG1];rfl,rfl⟩
    ·obtain rfl:n=p:=by omega
     have hso:solF rows right=outTo M.R n n:=by unfold solF;rw [hbl,hG]
     repeat' (first | refine sq ?_ | refine stp ?_ | refine blk_o (by decide) ?_ | (apply cb;(focus (simp (disch:=(first | omega | (simp;omega))) only [go_sem,w64];try exact rfl));refine cok ?_) | (with_reducible refine hK _ ?_;clear hK K) | (refine stq ?_;simp (disch:=(first | omega | (simp;omega))) only [go_sem,w64]) | refine as1 ?_ | fail)
     refine awp_weak (sle_mkM (tl:=[(6,.d (.int (n:Nat))),(7,.arr 500000 1 n)]) (ol:=[]) (M:=M) (by simp (disch:=(first | omega | (simp;omega))) only [go_sem,w64] <;> exact leafs) trivial (by simp (disch:=(first | omega | (simp;omega))) only [go_sem,w64]) (fun i hi=>by simp (disch:=(first | omega | (simp;omega))) only [go_sem,w64])) ?_
     (refine awp_region' tyT_ok ?_;intro K hK;simp (disch:=(first | omega | (simp;omega))) only [go_sem,w64])
     refine hK _ ?_;clear hK K
     repeat' (first | refine sq ?_ | refine stp ?_ | refine blk_o (by decide) ?_ | (apply cb;(focus (simp (disch:=(first | omega | (simp;omega))) only [go_sem,w64];try exact rfl));refine cok ?_) | (with_reducible refine hK _ ?_;clear hK K) | (refine stq ?_;simp (disch:=(first | omega | (simp;omega))) only [go_sem,w64]) | refine as1 ?_ | fail)
     refine awp_nilbuf 13 13 33 2 (by simp (disch:=(first | omega | (simp;omega))) only [go_sem,w64]) ?_
     repeat' (first | refine sq ?_ | refine stp ?_ | refine blk_o (by decide) ?_ | (apply cb;(focus (simp (disch:=(first | omega | (simp;omega))) only [go_sem,w64];try exact rfl));refine cok ?_) | (refine rgT ?_;intro K hK) | (refine dA ?_;intro K hK) | (with_reducible refine hK _ ?_;clear hK K) | (refine stq ?_;simp (disch:=(first | omega | (simp;omega))) only [go_sem,w64]) | refine as1 ?_ | fail)
     refine awp_loopw (fun mm s=>∃ (p:Nat) (l:List RatD),mm=n - p∧p≤n∧outTo M.R n p=some l∧s=mkM [(6,.d (.int (n:Nat))),(7,.arr 500000 1 n),(13,.buf 13 33 2 (l.map ratDV)),(14,.d (.int (p:Nat)))] [] M) ?_ ?_
     ·refine ⟨_,_,?_,0,[],rfl,Nat.zero_le _,rfl,rfl⟩
      refine sle_mkM (by simp (disch:=(first | omega | (simp;omega))) only [go_sem,w64] <;> exact leafs) trivial (by simp (disch:=(first | omega | (simp;omega))) only [go_sem,w64]) (fun i hi=>by simp (disch:=(first | omega | (simp;omega))) only [go_sem,w64])
     ·rintro mm s ⟨p,l,rfl,hp3,ho,rfl⟩
      repeat' (first | refine sq ?_ | refine stp ?_ | refine blk_o (by decide) ?_ | (apply cb;(focus (simp (disch:=(first | omega | (simp;omega))) only [go_sem,w64];try exact rfl));refine cok ?_) | (refine rgT ?_;intro K hK) | (refine dA ?_;intro K hK) | (with_reducible refine hK _ ?_;clear hK K) | (refine stq ?_;simp (disch:=(first | omega | (simp;omega))) only [go_sem,w64]) | refine as1 ?_ | fail)
      refine awp_if (p:=(p:Int)<(n:Nat)) (by simp (disch:=(first | omega | (simp;omega))) only [go_sem,w64]) ?_ ?_ <;> intro hc
      ·have hp4:p<n:=by omega
       have lp:=rowM_len (M:=M) hp4
       have np:=cQ_len (M.row p)
       have d1:=cQ_ld (M.row p) n (by omega)
       have d2:=cQ_ld (M.row p) p (by omega)
       have hs:outTo M.R n (p+1)=if (divQ (qx (M.row p) n) (qx (M.row p) p)).2.2=true then some (l ++ [rq (divQ (qx (M.row p) n) (qx (M.row p) p))]) else none:=by simp only [outTo,ho];rfl
       have hll:l.length=p:=outTo_len ho
       repeat' (first | refine sq ?_ | refine stp ?_ | refine blk_o (by decide) ?_ | (apply cb;(focus (simp (disch:=(first | omega | (simp;omega))) only [go_sem,w64,lp,np,d1,d2];try exact rfl));refine cok ?_) | (refine rgT ?_;intro K hK) | (refine dA ?_;intro K hK) | (with_reducible refine hK _ ?_;clear hK K) | (refine stq ?_;simp (disch:=(first | omega | (simp;omega))) only [go_sem,w64,lp,np,d1,d2]) | refine as1 ?_ | fail)
       (first | refine callA (implDivA (qx (M.row p) n) (qx (M.row p) p)) ?_ | refine callD (implDivA (qx (M.row p) n) (qx (M.row p) p)) ?_ | refine callE (implDivA (qx (M.row p) n) (qx (M.row p) p)) ?_ | refine callF (implDivA (qx (M.row p) n) (qx (M.row p) p)) ?_ ?_)
       generalize divQ (qx (M.row p) n) (qx (M.row p) p)=t at hs ⊢
       cases ht:t.2.2 with
       | false =>
        rw [if_neg (by rw [ht];simp)] at hs
        repeat' (first | refine sq ?_ | refine stp ?_ | refine blk_o (by decide) ?_ | (apply cb;(focus (simp (disch:=(first | omega | (simp;omega))) only [go_sem,w64,tupQ,ratDV,ht];try exact rfl));refine cok ?_) | (refine rgT ?_;intro K hK) | (refine dA ?_;intro K hK) | (with_reducible refine hK _ ?_;clear hK K) | (refine stq ?_;simp (disch:=(first | omega | (simp;omega))) only [go_sem,w64,tupQ,ratDV,ht]) | refine as1 ?_ | fail)
        (refine endA (r:=.tup [.d (.wh 2 []),.d (.bool false)]) ?_)
        exact ⟨by rw [hso,outTo_none hs n (by omega)];rfl,rfl⟩
       | true =>
        rw [if_pos ht] at hs
        repeat' (first | refine sq ?_ | refine stp ?_ | refine blk_o (by decide) ?_ | (apply cb;(focus (simp (disch:=(first | omega | (simp;omega))) only [go_sem,w64,tupQ,ratDV,ht];try exact rfl));refine cok ?_) | (refine rgT ?_;intro K hK) | (refine dA ?_;intro K hK) | (with_reducible refine hK _ ?_;clear hK K) | (refine stq ?_;simp (disch:=(first | omega | (simp;omega))) only [go_sem,w64,tupQ,ratDV,ht]) | refine as1 ?_ | fail)
        refine ⟨n - (p+1),_,by omega,?_,p+1,l ++ [rq t],rfl,by omega,hs,rfl⟩
        refine sle_mkM (by simp (disch:=(first | omega | (simp;omega))) only [go_sem,w64,List.map_append,List.map_cons,List.map_nil,ratDV] <;> exact leafs) trivial (by simp (disch:=(first | omega | (simp;omega))) only [go_sem,w64]) (fun i hi=>by simp (disch:=(first | omega | (simp;omega))) only [go_sem,w64])
      ·obtain rfl:n=p:=by omega
       repeat' (first | refine sq ?_ | refine stp ?_ | refine blk_o (by decide) ?_ | (apply cb;(focus (simp (disch:=(first | omega | (simp;omega))) only [go_sem,w64];try exact rfl));refine cok ?_) | (refine rgT ?_;intro K hK) | (refine dA ?_;intro K hK) | (with_reducible refine hK _ ?_;clear hK K) | (refine stq ?_;simp (disch:=(first | omega | (simp;omega))) only [go_sem,w64]) | refine as1 ?_ | fail)
       refine endG 13 (r:=.tup [.d (.wh 2 (l.map ratDV)),.d (.bool true)]) ?_
       exact ⟨by rw [hso,ho];rfl,rfl⟩
end Go.Proofs.YtkohkoiegmcghaaDoor
