/- Lemmas for the proof of FnCoverDuality, part 17 of 26: no condition of their own. -/
import Derived.Test.YtkohkoiegmcghaaDoorJ16
import Derived.Test.YtkohkoiegmcghaaDoorJ12
import Derived.Test.YtkohkoiegmcghaaDoorJ11
import Derived.Test.YtkohkoiegmcghaaDoorJ13
namespace Go.Proofs.YtkohkoiegmcghaaDoor
set_option linter.unusedSimpArgs false
set_option linter.unusedVariables false
attribute [local go_sem ↓] reduceIte
attribute [local go_sem] Nat.reduceEqDiff Nat.reduceLT Nat.reduceAdd Nat.reduceLeDiff Nat.reduceMul Nat.reduceBEq Nat.reduceSub reduceCtorEq Int.reduceLE Int.reduceNeg Int.reduceLT
open Go.RowKit
structure BestS where
 pt:List RatD
 val:RatD
 found:Bool
def bestT (C:List RatD) (sg:Int) (st:BestS) (x:List RatD):BestS:=match dotF C x with
 | none=>st
 | some v=>if st.found=false∨sg*cmpQ v st.val<0 then ⟨x,v,true⟩ else st
theorem wq0:whQ []=.wh 2 []:=rfl
def best0:BestS:=⟨[],⟨0,0⟩,false⟩
def bestTo (C:List RatD) (V:List (List RatD)) (sg:Int) (i:Nat):BestS:=(V.take i).foldl (bestT C sg) best0
def bestF (C:List RatD) (V:List (List RatD)) (sg:Int):BestS:=V.foldl (bestT C sg) best0
theorem bestTo_succ (C:List RatD) {V:List (List RatD)} (sg:Int) {i:Nat} (h:i<V.length):bestTo C V sg (i+1)=bestT C sg (bestTo C V sg i) (mx V i):=by
 unfold bestTo
 rw [List.take_add_one,List.getElem?_eq_getElem h,List.foldl_append]
 simp [mx,h]
theorem bestTo_all (C:List RatD) (V:List (List RatD)) (sg:Int):bestTo C V sg V.length=bestF C V sg:=by unfold bestTo bestF;rw [List.take_length]
def ansB (b:BestS):AV:=.tup [.d (whQ b.pt),.d (ratDV b.val),.d (.bool b.found)]
set_option maxHeartbeats 4000000 in
theorem implBestA (A:List (List RatD)) (B Cc:List RatD) (sg:Int) (hlp:lpV A B Cc=true) (hsg:sg=1∨sg = -1):AFn 64 [.d (lpD A B Cc),.d (.int sg)] [] (fun r os=>r=ansB (bestF Cc (vertF A B Cc sg) sg)∧os=[]):=by
 obtain ⟨_,hVl,hVn,hC5⟩:=vert_law (sg:=sg) hlp
 refine afn_of (rv:=[.tmp 4,.cell 5 33,.tmp 6]) tyW_ok Tryd.func64 rfl (by decide +kernel) Tryd.ntmps64 rfl (by simp) ?_
 repeat' (first | refine sq ?_ | refine stp ?_ | refine blk_o (by decide) ?_ | (apply cb;(focus (simp (disch:=(first | omega | (simp;omega))) only [go_sem,w64,lpD];try exact rfl));refine cok ?_) | (refine rgW ?_;intro K hK) | (refine dA ?_;intro K hK) | (with_reducible refine hK _ ?_;clear hK K) | (refine stq ?_;simp (disch:=(first | omega | (simp;omega))) only [go_sem,w64,lpD]) | refine as1 ?_ | fail)
 (first | refine callA (implVertA A B Cc sg hlp hsg) ?_ | refine callD (implVertA A B Cc sg hlp hsg) ?_ | refine callE (implVertA A B Cc sg hlp hsg) ?_ | refine callF (implVertA A B Cc sg hlp hsg) ?_ ?_)
 generalize vertF A B Cc sg=V at *
 have hVm:(V.map whQ).length=V.length:=List.length_map ..
 repeat' (first | refine sq ?_ | refine stp ?_ | refine blk_o (by decide) ?_ | (apply cb;(focus (simp (disch:=(first | omega | (simp;omega))) only [go_sem,w64,lpD,hVm];try exact rfl));refine cok ?_) | (refine rgW ?_;intro K hK) | (refine dA ?_;intro K hK) | (with_reducible refine hK _ ?_;clear hK K) | (refine stq ?_;simp (disch:=(first | omega | (simp;omega))) only [go_sem,w64,lpD,hVm]) | refine as1 ?_ | fail)
 refine awp_loopw (fun mm s=>∃ i b,mm=V.length - i∧i≤V.length∧b=bestTo Cc V sg i∧s=mkS [(1,.d (.int sg)),(2,.ptr 2 0),(5,.ptr 5 0),(7,.d (whQ b.pt)),(8,.ptr 8 0),(9,.d (.bool b.found)),(16,.d (.wh 1 (V.map whQ))),(17,.d (.int (V.length:Nat))),(18,.d (.int (i:Nat)))] [(2,[.d (matD A),.d (ratsD B),.d (ratsD Cc)]),(5,[.d (.int 0),.d (.int 0)]),(8,[.d (.int b.val.num),.d (.int b.val.den)])]) ?_ ?_
 ·refine ⟨_,_,?_,0,best0,rfl,Nat.zero_le _,rfl,rfl⟩
  (refine sle_mk ?_ ?_ <;> simp (disch:=(first | omega | (simp;omega))) only [go_sem,w64,hVm,best0,wq0] <;> exact leafs)
 ·rintro mm s ⟨i,b,rfl,hi,hb,rfl⟩
  obtain ⟨pt,val,found⟩:=b
  repeat' (first | refine sq ?_ | refine stp ?_ | refine blk_o (by decide) ?_ | (apply cb;(focus (simp (disch:=(first | omega | (simp;omega))) only [go_sem,w64];try exact rfl));refine cok ?_) | (refine rgW ?_;intro K hK) | (refine dA ?_;intro K hK) | (with_reducible refine hK _ ?_;clear hK K) | (refine stq ?_;simp (disch:=(first | omega | (simp;omega))) only [go_sem,w64]) | refine as1 ?_ | fail)
  refine awp_if (p:=(i:Int)<(V.length:Nat)) (by simp (disch:=(first | omega | (simp;omega))) only [go_sem,w64]) ?_ ?_ <;> intro hc
  ·have hi2:i<V.length:=by omega
   have g0:(V.map whQ).getD i (.bool false)=whQ (mx V i):=by simp [List.getD,mx,hi2]
   have hs:=bestTo_succ Cc sg hi2
   have hxl:(mx V i).length≤1048576:=by
    have:=hVl (mx V i) (by simp [mx,hi2])
    omega
   generalize mx V i=x at *
   rw [← hb] at hs
   repeat' (first | refine sq ?_ | refine stp ?_ | refine blk_o (by decide) ?_ | (apply cb;(focus (simp (disch:=(first | omega | (simp;omega))) only [go_sem,w64,hVm,g0];try exact rfl));refine cok ?_) | (refine rgW ?_;intro K hK) | (refine dA ?_;intro K hK) | (with_reducible refine hK _ ?_;clear hK K) | (refine stq ?_;simp (disch:=(first | omega | (simp;omega))) only [go_sem,w64,hVm,g0]) | refine as1 ?_ | fail)
   (first | refine callA (implDotA Cc x (by omega) hxl) ?_ | refine callD (implDotA Cc x (by omega) hxl) ?_ | refine callE (implDotA Cc x (by omega) hxl) ?_ | refine callF (implDotA Cc x (by omega) hxl) ?_ ?_)
   cases hd:dotF Cc x with
   | none =>
    have hs2:(⟨pt,val,found⟩:BestS)=bestTo Cc V sg (i+1):=by rw [hs];unfold bestT;rw [hd]
    repeat' (first | refine sq ?_ | refine stp ?_ | refine blk_o (by decide) ?_ | (apply cb;(focus (simp (disch:=(first | omega | (simp;omega))) only [go_sem,w64,ansQ,ratDV];try exact rfl));refine cok ?_) | (refine rgW ?_;intro K hK) | (refine dA ?_;intro K hK) | (with_reducible refine hK _ ?_;clear hK K) | (refine stq ?_;simp (disch:=(first | omega | (simp;omega))) only [go_sem,w64,ansQ,ratDV]) | refine as1 ?_ | fail)
    refine ⟨V.length - (i+1),_,by omega,?_,i+1,_,rfl,by omega,hs2,rfl⟩
    exact sleA
   | some v =>
    cases found with
    | false =>
     have hs2:(⟨x,v,true⟩:BestS)=bestTo Cc V sg (i+1):=by rw [hs];unfold bestT;rw [hd];simp
     repeat' (first | refine sq ?_ | refine stp ?_ | refine blk_o (by decide) ?_ | (apply cb;(focus (simp (disch:=(first | omega | (simp;omega))) only [go_sem,w64,ansQ,ratDV];try exact rfl));refine cok ?_) | (refine rgW ?_;intro K hK) | (refine dA ?_;intro K hK) | (with_reducible refine hK _ ?_;clear hK K) | (refine stq ?_;simp (disch:=(first | omega | (simp;omega))) only [go_sem,w64,ansQ,ratDV]) | refine as1 ?_ | fail)
     refine ⟨V.length - (i+1),_,by omega,?_,i+1,_,rfl,by omega,hs2,rfl⟩
     exact sleA
    | true =>
     have hcm:=implCmpA v val
     have w1:=sg_w hsg (cmpQ_rg v val)
     have hs3:bestTo Cc V sg (i+1)=if sg*cmpQ v val<0 then ⟨x,v,true⟩ else ⟨pt,val,true⟩:=by rw [hs];unfold bestT;rw [hd];simp
     generalize cmpQ v val=c at *
     repeat' (first | refine sq ?_ | refine stp ?_ | refine blk_o (by decide) ?_ | (apply cb;(focus (simp (disch:=(first | omega | (simp;omega))) only [go_sem,w64,ansQ,ratDV];try exact rfl));refine cok ?_) | (refine rgW ?_;intro K hK) | (refine dA ?_;intro K hK) | (with_reducible refine hK _ ?_;clear hK K) | (refine stq ?_;simp (disch:=(first | omega | (simp;omega))) only [go_sem,w64,ansQ,ratDV]) | refine as1 ?_ | fail)
     (first | refine callA (hcm) ?_ | refine callD (hcm) ?_ | refine callE (hcm) ?_ | refine callF (hcm) ?_ ?_)
     by_cases hcs:sg*c<0
     ·rw [if_pos hcs] at hs3
      have z1:decide (sg*c<0)=true:=decide_eq_true hcs
      repeat' (first | refine sq ?_ | refine stp ?_ | refine blk_o (by decide) ?_ | (apply cb;(focus (simp (disch:=(first | omega | (simp;omega))) only [go_sem,w64,w1,z1];try exact rfl));refine cok ?_) | (refine rgW ?_;intro K hK) | (refine dA ?_;intro K hK) | (with_reducible refine hK _ ?_;clear hK K) | (refine stq ?_;simp (disch:=(first | omega | (simp;omega))) only [go_sem,w64,w1,z1]) | refine as1 ?_ | fail)
      refine ⟨V.length - (i+1),_,by omega,?_,i+1,_,rfl,by omega,hs3.symm,rfl⟩
      exact sleA
     ·rw [if_neg hcs] at hs3
      have z1:decide (sg*c<0)=false:=decide_eq_false hcs
      repeat' (first | refine sq ?_ | refine stp ?_ | refine blk_o (by decide) ?_ | (apply cb;(focus (simp (disch:=(first | omega | (simp;omega))) only [go_sem,w64,w1,z1];try exact rfl));refine cok ?_) | (refine rgW ?_;intro K hK) | (refine dA ?_;intro K hK) | (with_reducible refine hK _ ?_;clear hK K) | (refine stq ?_;simp (disch:=(first | omega | (simp;omega))) only [go_sem,w64,w1,z1]) | refine as1 ?_ | fail)
      refine ⟨V.length - (i+1),_,by omega,?_,i+1,_,rfl,by omega,hs3.symm,rfl⟩
      exact sleA
  ·obtain rfl:i=V.length:=by omega
   rw [bestTo_all] at hb
   rw [← hb]
   repeat' (first | refine sq ?_ | refine stp ?_ | refine blk_o (by decide) ?_ | (apply cb;(focus (simp (disch:=(first | omega | (simp;omega))) only [go_sem,w64];try exact rfl));refine cok ?_) | (refine rgT ?_;intro K hK) | (with_reducible refine hK _ ?_;clear hK K) | (refine stq ?_;simp (disch:=(first | omega | (simp;omega))) only [go_sem,w64]) | refine as1 ?_ | fail)
   refine awp_drawQ [5] tyT_ok (by kernel_rfl) (by kernel_rfl) ?_;intro K hK
   repeat' (first | refine sq ?_ | refine stp ?_ | refine blk_o (by decide) ?_ | (apply cb;(focus (simp (disch:=(first | omega | (simp;omega))) only [go_sem,w64];try exact rfl));refine cok ?_) | (refine rgW ?_;intro K hK) | (refine dA ?_;intro K hK) | (with_reducible refine hK _ ?_;clear hK K) | (refine stq ?_;simp (disch:=(first | omega | (simp;omega))) only [go_sem,w64]) | refine as1 ?_ | fail)
   (refine endA (r:=.tup [.d (whQ pt),.d (.agg [.int val.num,.int val.den]),.d (.bool found)]) ?_)
   exact ⟨rfl,rfl⟩
def mnF (A:List (List RatD)) (B Cc:List RatD):BestS:=if lpV A B Cc=true∧posL Cc=true then bestF Cc (vertF A B Cc 1) 1 else best0
def bndC (A:List (List RatD)) (k:Nat):Bool:=(List.range A.length).any fun i=>posL (mx A i) && decide (0<(qx (mx A i) k).num)
def bndL (A:List (List RatD)) (n:Nat):Bool:=(List.range n).all (bndC A)
def mxF (A:List (List RatD)) (B Cc:List RatD):BestS:=if lpV A B Cc=true∧bndL A Cc.length=true then bestF Cc (vertF A B Cc (-1)) (-1) else best0
theorem bestF_pt (C:List RatD) (V:List (List RatD)) (sg:Int) (m:Nat) (h:∀ y∈V,y.length≤m):(bestF C V sg).pt.length≤m :=
 foldl_inv (fun b:BestS=>b.pt.length≤m) _ _ _ (Nat.zero_le _) fun b x hx hb=>by
  unfold bestT
  split
  ·exact hb
  ·split
   ·exact h x hx
   ·exact hb
theorem mn_sz (A:List (List RatD)) (B Cc:List RatD):(mnF A B Cc).pt.length≤1048576:=by
 unfold mnF
 split
 ·rename_i h
  obtain ⟨_,h2,_,h4⟩:=vert_law (sg:=1) h.1
  exact bestF_pt _ _ _ _ fun y hy=>by rw [h2 y hy];omega
 ·exact Nat.zero_le _
theorem mxF_sz (A:List (List RatD)) (B Cc:List RatD):(mxF A B Cc).pt.length≤1048576:=by
 unfold mxF
 split
 ·rename_i h
  obtain ⟨_,h2,_,h4⟩:=vert_law (sg:=-1) h.1
  exact bestF_pt _ _ _ _ fun y hy=>by rw [h2 y hy];omega
 ·exact Nat.zero_le _
section
variable (A:List (List RatD)) (B Cc:List RatD) (hA:A.length≤1048576) (hr:∀ i,i<A.length→(mx A i).length≤1048576) (hB:B.length≤1048576) (hC:Cc.length≤1048576)
include hA hr hB hC
set_option maxHeartbeats 2000000 in
theorem implMinA:AFn 40 [.d (lpD A B Cc)] [] (fun r os=>r=ansB (mnF A B Cc)∧os=[]):=by
 refine afn_of (rv:=[.tmp 2,.cell 3 33,.tmp 4]) tyW_ok Tryd.func40 rfl (by decide +kernel) Tryd.ntmps40 rfl (by simp) ?_
 repeat' (first | refine sq ?_ | refine stp ?_ | refine blk_o (by decide) ?_ | (apply cb;(focus (simp (disch:=(first | omega | (simp;omega))) only [go_sem,w64,lpD];try exact rfl));refine cok ?_) | (refine rgW ?_;intro K hK) | (refine dA ?_;intro K hK) | (with_reducible refine hK _ ?_;clear hK K) | (refine stq ?_;simp (disch:=(first | omega | (simp;omega))) only [go_sem,w64,lpD]) | refine as1 ?_ | fail)
 (first | refine callA (implLpA A B Cc hA hr hB hC) ?_ | refine callD (implLpA A B Cc hA hr hB hC) ?_ | refine callE (implLpA A B Cc hA hr hB hC) ?_ | refine callF (implLpA A B Cc hA hr hB hC) ?_ ?_)
 cases h:lpV A B Cc with
 | false =>
  repeat' (first | refine sq ?_ | refine stp ?_ | refine blk_o (by decide) ?_ | (apply cb;(focus (simp (disch:=(first | omega | (simp;omega))) only [go_sem,w64,h,lpD];try exact rfl));refine cok ?_) | (refine rgW ?_;intro K hK) | (refine dA ?_;intro K hK) | (with_reducible refine hK _ ?_;clear hK K) | (refine stq ?_;simp (disch:=(first | omega | (simp;omega))) only [go_sem,w64,h,lpD]) | refine as1 ?_ | fail)
  (refine endA (r:=.tup [.d (.wh 2 []),.d (.agg [.int 0,.int 0]),.d (.bool false)]) ?_)
  exact ⟨by unfold mnF;rw [if_neg (by rw [h];simp)];rfl,rfl⟩
 | true =>
  repeat' (first | refine sq ?_ | refine stp ?_ | refine blk_o (by decide) ?_ | (apply cb;(focus (simp (disch:=(first | omega | (simp;omega))) only [go_sem,w64,h,lpD,ratsD];try exact rfl));refine cok ?_) | (refine rgW ?_;intro K hK) | (refine dA ?_;intro K hK) | (with_reducible refine hK _ ?_;clear hK K) | (refine stq ?_;simp (disch:=(first | omega | (simp;omega))) only [go_sem,w64,h,lpD,ratsD]) | refine as1 ?_ | fail)
  refine awp_loopw (fun mm s=>∃ i,mm=Cc.length - i∧i≤Cc.length∧(∀ j,j<i→0≤(qx Cc j).num)∧s=mkS [(1,.ptr 1 0),(3,.ptr 3 0),(12,.d (ratsD Cc)),(13,.d (.int (Cc.length:Nat))),(14,.d (.int (i:Nat)))] [(1,[.d (matD A),.d (ratsD B),.d (ratsD Cc)]),(3,[.d (.int 0),.d (.int 0)])]) ?_ ?_
  ·refine ⟨_,_,?_,0,rfl,Nat.zero_le _,fun j h=>absurd h (Nat.not_lt_zero _),rfl⟩
   (refine sle_mk ?_ ?_ <;> simp (disch:=(first | omega | (simp;omega))) only [go_sem,w64,ratsD,matD] <;> exact leafs)
  ·rintro mm s ⟨i,rfl,hi,hd,rfl⟩
   repeat' (first | refine sq ?_ | refine stp ?_ | refine blk_o (by decide) ?_ | (apply cb;(focus (simp (disch:=(first | omega | (simp;omega))) only [go_sem,w64,ratsD];try exact rfl));refine cok ?_) | (refine rgW ?_;intro K hK) | (refine dA ?_;intro K hK) | (with_reducible refine hK _ ?_;clear hK K) | (refine stq ?_;simp (disch:=(first | omega | (simp;omega))) only [go_sem,w64,ratsD]) | refine as1 ?_ | fail)
   refine awp_if (p:=(i:Int)<(Cc.length:Nat)) (by simp (disch:=(first | omega | (simp;omega))) only [go_sem,w64,ratsD]) ?_ ?_ <;> intro hc
   ·have hi2:i<Cc.length:=by omega
    have g0:(Cc.map ratDV).getD i (.bool false)=ratDV (qx Cc i):=getDq hi2
    repeat' (first | refine sq ?_ | refine stp ?_ | refine blk_o (by decide) ?_ | (apply cb;(focus (simp (disch:=(first | omega | (simp;omega))) only [go_sem,w64,ratsD,g0,ratDV];try exact rfl));refine cok ?_) | (refine rgW ?_;intro K hK) | (refine dA ?_;intro K hK) | (with_reducible refine hK _ ?_;clear hK K) | (refine stq ?_;simp (disch:=(first | omega | (simp;omega))) only [go_sem,w64,ratsD,g0,ratDV]) | refine as1 ?_ | fail)
    refine awp_if (p:=(qx Cc i).num<0) (by simp (disch:=(first | omega | (simp;omega))) only [go_sem,w64]) ?_ ?_ <;> intro hc2
    ·repeat' (first | refine sq ?_ | refine stp ?_ | refine blk_o (by decide) ?_ | (apply cb;(focus (simp (disch:=(first | omega | (simp;omega))) only [go_sem,w64];try exact rfl));refine cok ?_) | (refine rgW ?_;intro K hK) | (refine dA ?_;intro K hK) | (with_reducible refine hK _ ?_;clear hK K) | (refine stq ?_;simp (disch:=(first | omega | (simp;omega))) only [go_sem,w64]) | refine as1 ?_ | fail)
     (refine endA (r:=.tup [.d (.wh 2 []),.d (.agg [.int 0,.int 0]),.d (.bool false)]) ?_)
     exact ⟨by unfold mnF;rw [if_neg (by rw [posL_no hi2 (by omega)];simp)];rfl,rfl⟩
    ·repeat' (first | refine sq ?_ | refine stp ?_ | refine blk_o (by decide) ?_ | (apply cb;(focus (simp (disch:=(first | omega | (simp;omega))) only [go_sem,w64];try exact rfl));refine cok ?_) | (refine rgW ?_;intro K hK) | (refine dA ?_;intro K hK) | (with_reducible refine hK _ ?_;clear hK K) | (refine stq ?_;simp (disch:=(first | omega | (simp;omega))) only [go_sem,w64]) | refine as1 ?_ | fail)
     refine ⟨Cc.length - (i+1),_,by omega,?_,i+1,rfl,by omega,fun j hj=>?_,rfl⟩
     ·(refine sle_mk ?_ ?_ <;> simp (disch:=(first | omega | (simp;omega))) only [go_sem,w64,ratsD,matD] <;> exact leafs)
     ·by_cases e:j=i
      ·subst e;omega
      ·exact hd j (by omega)
   ·obtain rfl:i=Cc.length:=by omega
    have hm:mnF A B Cc=bestF Cc (vertF A B Cc 1) 1:=by unfold mnF;rw [if_pos ⟨h,posL_yes hd⟩]
    have hb:=implBestA A B Cc 1 h (.inl rfl)
    rw [← hm] at hb
    generalize mnF A B Cc=F at *
    repeat' (first | refine sq ?_ | refine stp ?_ | refine blk_o (by decide) ?_ | (apply cb;(focus (simp (disch:=(first | omega | (simp;omega))) only [go_sem,w64,ratsD,matD];try exact rfl));refine cok ?_) | (refine rgW ?_;intro K hK) | (refine dA ?_;intro K hK) | (with_reducible refine hK _ ?_;clear hK K) | (refine stq ?_;simp (disch:=(first | omega | (simp;omega))) only [go_sem,w64,ratsD,matD]) | refine as1 ?_ | fail)
    (first | refine callA (hb) ?_ | refine callD (hb) ?_ | refine callE (hb) ?_ | refine callF (hb) ?_ ?_)
    repeat' (first | refine sq ?_ | refine stp ?_ | refine blk_o (by decide) ?_ | (apply cb;(focus (simp (disch:=(first | omega | (simp;omega))) only [go_sem,w64,ansB,ratDV];try exact rfl));refine cok ?_) | (refine rgW ?_;intro K hK) | (refine dA ?_;intro K hK) | (with_reducible refine hK _ ?_;clear hK K) | (refine stq ?_;simp (disch:=(first | omega | (simp;omega))) only [go_sem,w64,ansB,ratDV]) | refine as1 ?_ | fail)
    (refine endA (r:=.tup [.d (whQ F.pt),.d (.agg [.int F.val.num,.int F.val.den]),.d (.bool F.found)]) ?_)
    exact ⟨rfl,rfl⟩
end
def posTo (r:List RatD) (j:Nat):Bool:=(List.range j).all fun i=>decide (0≤(qx r i).num)
theorem posTo_succ (r:List RatD) (j:Nat):posTo r (j+1)=(posTo r j && decide (0≤(qx r j).num)):=by simp [posTo,List.range_succ]
def bndT (A:List (List RatD)) (k i:Nat):Bool:=(List.range i).any fun i=>posL (mx A i) && decide (0<(qx (mx A i) k).num)
theorem bndT_succ (A:List (List RatD)) (k i:Nat):bndT A k (i+1)=(bndT A k i || (posL (mx A i) && decide (0<(qx (mx A i) k).num))):=by simp [bndT,List.range_succ]
theorem bndL_no {A:List (List RatD)} {n k:Nat} (hk:k<n) (h:bndC A k=false):bndL A n=false:=by
 cases e:bndL A n with
 | false=>rfl
 | true=>rw [List.all_eq_true.1 e k (List.mem_range.2 hk)] at h;cases h
theorem bndL_yes {A:List (List RatD)} {n:Nat} (h:∀ k,k<n→bndC A k=true):bndL A n=true:=List.all_eq_true.2 fun i hi=>h i (List.mem_range.1 hi)
section
variable (A:List (List RatD)) (B Cc:List RatD) (hA:A.length≤1048576) (hr:∀ i,i<A.length→(mx A i).length≤1048576) (hB:B.length≤1048576) (hC:Cc.length≤1048576)
include hA hr hB hC
set_option maxHeartbeats 4000000 in
theorem implMaxA:AFn 36 [.d (lpD A B Cc)] [] (fun r os=>r=ansB (mxF A B Cc)∧os=[]):=by
 refine afn_of (rv:=[.tmp 2,.cell 3 33,.tmp 4]) tyW_ok Tryd.func36 rfl (by decide +kernel) Tryd.ntmps36 rfl (by simp) ?_
 repeat' (first | refine sq ?_ | refine stp ?_ | refine blk_o (by decide) ?_ | (apply cb;(focus (simp (disch:=(first | omega | (simp;omega))) only [go_sem,w64,lpD];try exact rfl));refine cok ?_) | (refine rgW ?_;intro K hK) | (refine dA ?_;intro K hK) | (with_reducible refine hK _ ?_;clear hK K) | (refine stq ?_;simp (disch:=(first | omega | (simp;omega))) only [go_sem,w64,lpD]) | refine as1 ?_ | fail)
 (first | refine callA (implLpA A B Cc hA hr hB hC) ?_ | refine callD (implLpA A B Cc hA hr hB hC) ?_ | refine callE (implLpA A B Cc hA hr hB hC) ?_ | refine callF (implLpA A B Cc hA hr hB hC) ?_ ?_)
 cases h:lpV A B Cc with
 | false =>
  repeat' (first | refine sq ?_ | refine stp ?_ | refine blk_o (by decide) ?_ | (apply cb;(focus (simp (disch:=(first | omega | (simp;omega))) only [go_sem,w64,h,lpD];try exact rfl));refine cok ?_) | (refine rgW ?_;intro K hK) | (refine dA ?_;intro K hK) | (with_reducible refine hK _ ?_;clear hK K) | (refine stq ?_;simp (disch:=(first | omega | (simp;omega))) only [go_sem,w64,h,lpD]) | refine as1 ?_ | fail)
  (refine endA (r:=.tup [.d (.wh 2 []),.d (.agg [.int 0,.int 0]),.d (.bool false)]) ?_)
  exact ⟨by unfold mxF;rw [if_neg (by rw [h];simp)];rfl,rfl⟩
 | true =>
  obtain ⟨_,_,hmo,_,_⟩:=lpV_out h
  obtain ⟨hAB,hrow⟩:=matOK_out hmo
  repeat' (first | refine sq ?_ | refine stp ?_ | refine blk_o (by decide) ?_ | (apply cb;(focus (simp (disch:=(first | omega | (simp;omega))) only [go_sem,w64,h,lpD,ratsD];try exact rfl));refine cok ?_) | (refine rgW ?_;intro K hK) | (refine dA ?_;intro K hK) | (with_reducible refine hK _ ?_;clear hK K) | (refine stq ?_;simp (disch:=(first | omega | (simp;omega))) only [go_sem,w64,h,lpD,ratsD]) | refine as1 ?_ | fail)
  refine awp_loopw (fun mm s=>∃ k,mm=Cc.length - k∧k≤Cc.length∧(∀ j,j<k→bndC A j=true)∧s=mkS [(1,.ptr 1 0),(3,.ptr 3 0),(17,.d (ratsD Cc)),(18,.d (.int (Cc.length:Nat))),(19,.d (.int (k:Nat)))] [(1,[.d (matD A),.d (ratsD B),.d (ratsD Cc)]),(3,[.d (.int 0),.d (.int 0)])]) ?_ ?_
  ·refine ⟨_,_,?_,0,rfl,Nat.zero_le _,fun j h=>absurd h (Nat.not_lt_zero _),rfl⟩
   (refine sle_mk ?_ ?_ <;> simp (disch:=(first | omega | (simp;omega))) only [go_sem,w64,ratsD,matD] <;> exact leafs)
  ·rintro mm s ⟨k,rfl,hk,hd,rfl⟩
   repeat' (first | refine sq ?_ | refine stp ?_ | refine blk_o (by decide) ?_ | (apply cb;(focus (simp (disch:=(first | omega | (simp;omega))) only [go_sem,w64,ratsD];try exact rfl));refine cok ?_) | (refine rgW ?_;intro K hK) | (refine dA ?_;intro K hK) | (with_reducible refine hK _ ?_;clear hK K) | (refine stq ?_;simp (disch:=(first | omega | (simp;omega))) only [go_sem,w64,ratsD]) | refine as1 ?_ | fail)
   refine awp_if (p:=(k:Int)<(Cc.length:Nat)) (by simp (disch:=(first | omega | (simp;omega))) only [go_sem,w64,ratsD]) ?_ ?_ <;> intro hc
   ·have hk2:k<Cc.length:=by omega
    repeat' (first | refine sq ?_ | refine stp ?_ | refine blk_o (by decide) ?_ | (apply cb;(focus (simp (disch:=(first | omega | (simp;omega))) only [go_sem,w64,ratsD,matD];try exact rfl));refine cok ?_) | (refine rgW ?_;intro K hK) | (refine dA ?_;intro K hK) | (with_reducible refine hK _ ?_;clear hK K) | (refine stq ?_;simp (disch:=(first | omega | (simp;omega))) only [go_sem,w64,ratsD,matD]) | refine as1 ?_ | fail)
    refine awp_loopw (fun mm s=>∃ i,mm=A.length - i∧i≤A.length∧s=mkS [(1,.ptr 1 0),(3,.ptr 3 0),(17,.d (ratsD Cc)),(18,.d (.int (Cc.length:Nat))),(19,.d (.int (k:Nat))),(5,.d (.int (k:Nat))),(6,.d (.bool (bndT A k i))),(23,.d (matD A)),(24,.d (.int (A.length:Nat))),(25,.d (.int (i:Nat)))] [(1,[.d (matD A),.d (ratsD B),.d (ratsD Cc)]),(3,[.d (.int 0),.d (.int 0)])]) ?_ ?_
    ·refine ⟨_,_,?_,0,rfl,Nat.zero_le _,rfl⟩
     have e:bndT A k 0=false:=rfl
     (refine sle_mk ?_ ?_ <;> simp (disch:=(first | omega | (simp;omega))) only [go_sem,w64,ratsD,matD,e] <;> exact leafs)
    ·rintro mm s ⟨i,rfl,hi,rfl⟩
     repeat' (first | refine sq ?_ | refine stp ?_ | refine blk_o (by decide) ?_ | (apply cb;(focus (simp (disch:=(first | omega | (simp;omega))) only [go_sem,w64,ratsD,matD];try exact rfl));refine cok ?_) | (refine rgW ?_;intro K hK) | (refine dA ?_;intro K hK) | (with_reducible refine hK _ ?_;clear hK K) | (refine stq ?_;simp (disch:=(first | omega | (simp;omega))) only [go_sem,w64,ratsD,matD]) | refine as1 ?_ | fail)
     refine awp_if (p:=(i:Int)<(A.length:Nat)) (by simp (disch:=(first | omega | (simp;omega))) only [go_sem,w64,matD]) ?_ ?_ <;> intro hc2
     ·have hi2:i<A.length:=by omega
      have g0:(A.map ratsD).getD i (.bool false)=ratsD (mx A i):=getDm hi2
      have hb:=bndT_succ A k i
      have hrl:=hrow i hi2
      generalize mx A i=row at *
      have g1:(row.map ratDV).getD k (.bool false)=ratDV (qx row k):=getDq (by omega)
      repeat' (first | refine sq ?_ | refine stp ?_ | refine blk_o (by decide) ?_ | (apply cb;(focus (simp (disch:=(first | omega | (simp;omega))) only [go_sem,w64,matD,g0,ratsD,g1,ratDV];try exact rfl));refine cok ?_) | (refine rgW ?_;intro K hK) | (refine dA ?_;intro K hK) | (with_reducible refine hK _ ?_;clear hK K) | (refine stq ?_;simp (disch:=(first | omega | (simp;omega))) only [go_sem,w64,matD,g0,ratsD,g1,ratDV]) | refine as1 ?_ | fail)
      refine awp_loopw (fun mm s=>∃ j,mm=row.length - j∧j≤row.length∧s=mkS [(1,.ptr 1 0),(3,.ptr 3 0),(17,.d (ratsD Cc)),(18,.d (.int (Cc.length:Nat))),(19,.d (.int (k:Nat))),(5,.d (.int (k:Nat))),(6,.d (.bool (bndT A k i))),(23,.d (matD A)),(24,.d (.int (A.length:Nat))),(25,.d (.int (i:Nat))),(9,.d (.bool (decide (0<(qx row k).num) && posTo row j))),(35,.d (ratsD row)),(36,.d (.int (row.length:Nat))),(37,.d (.int (j:Nat)))] [(1,[.d (matD A),.d (ratsD B),.d (ratsD Cc)]),(3,[.d (.int 0),.d (.int 0)])]) ?_ ?_
      ·refine ⟨_,_,?_,0,rfl,Nat.zero_le _,rfl⟩
       have e:posTo row 0=true:=rfl
       (refine sle_mk ?_ ?_ <;> simp (disch:=(first | omega | (simp;omega))) only [go_sem,w64,ratsD,matD,e,Bool.and_true] <;> exact leafs)
      ·rintro mm s ⟨j,rfl,hj,rfl⟩
       repeat' (first | refine sq ?_ | refine stp ?_ | refine blk_o (by decide) ?_ | (apply cb;(focus (simp (disch:=(first | omega | (simp;omega))) only [go_sem,w64,ratsD,matD];try exact rfl));refine cok ?_) | (refine rgW ?_;intro K hK) | (refine dA ?_;intro K hK) | (with_reducible refine hK _ ?_;clear hK K) | (refine stq ?_;simp (disch:=(first | omega | (simp;omega))) only [go_sem,w64,ratsD,matD]) | refine as1 ?_ | fail)
       refine awp_if (p:=(j:Int)<(row.length:Nat)) (by simp (disch:=(first | omega | (simp;omega))) only [go_sem,w64,ratsD]) ?_ ?_ <;> intro hc3
       ·have hj2:j<row.length:=by omega
        have g2:(row.map ratDV).getD j (.bool false)=ratDV (qx row j):=getDq hj2
        have hp:=posTo_succ row j
        cases hok:(decide (0<(qx row k).num) && posTo row j) with
        | false =>
         have e:(decide (0<(qx row k).num) && posTo row (j+1))=false:=by rw [hp,← Bool.and_assoc,hok];rfl
         repeat' (first | refine sq ?_ | refine stp ?_ | refine blk_o (by decide) ?_ | (apply cb;(focus (simp (disch:=(first | omega | (simp;omega))) only [go_sem,w64,ratsD,matD,g2,ratDV];try exact rfl));refine cok ?_) | (refine rgW ?_;intro K hK) | (refine dA ?_;intro K hK) | (with_reducible refine hK _ ?_;clear hK K) | (refine stq ?_;simp (disch:=(first | omega | (simp;omega))) only [go_sem,w64,ratsD,matD,g2,ratDV]) | refine as1 ?_ | fail)
         refine ⟨row.length - (j+1),_,by omega,?_,j+1,rfl,by omega,rfl⟩
         (refine sle_mk ?_ ?_ <;> simp (disch:=(first | omega | (simp;omega))) only [go_sem,w64,ratsD,matD,e] <;> exact leafs)
        | true =>
         have e:(decide (0<(qx row k).num) && posTo row (j+1))=decide (0≤(qx row j).num):=by rw [hp,← Bool.and_assoc,hok];rfl
         repeat' (first | refine sq ?_ | refine stp ?_ | refine blk_o (by decide) ?_ | (apply cb;(focus (simp (disch:=(first | omega | (simp;omega))) only [go_sem,w64,ratsD,matD,g2,ratDV];try exact rfl));refine cok ?_) | (refine rgW ?_;intro K hK) | (refine dA ?_;intro K hK) | (with_reducible refine hK _ ?_;clear hK K) | (refine stq ?_;simp (disch:=(first | omega | (simp;omega))) only [go_sem,w64,ratsD,matD,g2,ratDV]) | refine as1 ?_ | fail)
         refine ⟨row.length - (j+1),_,by omega,?_,j+1,rfl,by omega,rfl⟩
         (refine sle_mk ?_ ?_ <;> simp (disch:=(first | omega | (simp;omega))) only [go_sem,w64,ratsD,matD,e] <;> exact leafs)
       ·obtain rfl:j=row.length:=by omega
        have e:bndT A k (i+1)=(bndT A k i || (decide (0<(qx row k).num) && posTo row row.length)):=by rw [hb,Bool.and_comm];rfl
        clear hb
        generalize (decide (0<(qx row k).num) && posTo row row.length)=okv at *
        cases hbb:bndT A k i with
        | false =>
         rw [hbb,Bool.false_or] at e
         repeat' (first | refine sq ?_ | refine stp ?_ | refine blk_o (by decide) ?_ | (apply cb;(focus (simp (disch:=(first | omega | (simp;omega))) only [go_sem,w64,ratsD,matD];try exact rfl));refine cok ?_) | (refine rgW ?_;intro K hK) | (refine dA ?_;intro K hK) | (with_reducible refine hK _ ?_;clear hK K) | (refine stq ?_;simp (disch:=(first | omega | (simp;omega))) only [go_sem,w64,ratsD,matD]) | refine as1 ?_ | fail)
         refine ⟨A.length - (i+1),_,by omega,?_,i+1,rfl,by omega,rfl⟩
         (refine sle_mk ?_ ?_ <;> simp (disch:=(first | omega | (simp;omega))) only [go_sem,w64,ratsD,matD,e] <;> exact leafs)
        | true =>
         rw [hbb,Bool.true_or] at e
         repeat' (first | refine sq ?_ | refine stp ?_ | refine blk_o (by decide) ?_ | (apply cb;(focus (simp (disch:=(first | omega | (simp;omega))) only [go_sem,w64,ratsD,matD];try exact rfl));refine cok ?_) | (refine rgW ?_;intro K hK) | (refine dA ?_;intro K hK) | (with_reducible refine hK _ ?_;clear hK K) | (refine stq ?_;simp (disch:=(first | omega | (simp;omega))) only [go_sem,w64,ratsD,matD]) | refine as1 ?_ | fail)
         refine ⟨A.length - (i+1),_,by omega,?_,i+1,rfl,by omega,rfl⟩
         (refine sle_mk ?_ ?_ <;> simp (disch:=(first | omega | (simp;omega))) only [go_sem,w64,ratsD,matD,e] <;> exact leafs)
     ·obtain rfl:i=A.length:=by omega
      have e:bndT A k A.length=bndC A k:=rfl
      rw [e]
      cases hbb:bndC A k with
      | false =>
       repeat' (first | refine sq ?_ | refine stp ?_ | refine blk_o (by decide) ?_ | (apply cb;(focus (simp (disch:=(first | omega | (simp;omega))) only [go_sem,w64,matD];try exact rfl));refine cok ?_) | (refine rgW ?_;intro K hK) | (refine dA ?_;intro K hK) | (with_reducible refine hK _ ?_;clear hK K) | (refine stq ?_;simp (disch:=(first | omega | (simp;omega))) only [go_sem,w64,matD]) | refine as1 ?_ | fail)
       (refine endA (r:=.tup [.d (.wh 2 []),.d (.agg [.int 0,.int 0]),.d (.bool false)]) ?_)
       exact ⟨by unfold mxF;rw [if_neg (by rw [bndL_no hk2 hbb];simp)];rfl,rfl⟩
      | true =>
       repeat' (first | refine sq ?_ | refine stp ?_ | refine blk_o (by decide) ?_ | (apply cb;(focus (simp (disch:=(first | omega | (simp;omega))) only [go_sem,w64,matD];try exact rfl));refine cok ?_) | (refine rgW ?_;intro K hK) | (refine dA ?_;intro K hK) | (with_reducible refine hK _ ?_;clear hK K) | (refine stq ?_;simp (disch:=(first | omega | (simp;omega))) only [go_sem,w64,matD]) | refine as1 ?_ | fail)
       refine ⟨Cc.length - (k+1),_,by omega,?_,k+1,rfl,by omega,fun j hj=>?_,rfl⟩
       ·(refine sle_mk ?_ ?_ <;> simp (disch:=(first | omega | (simp;omega))) only [go_sem,w64,ratsD,matD] <;> exact leafs)
       ·by_cases e:j=k
        ·subst e;exact hbb
        ·exact hd j (by omega)
   ·obtain rfl:k=Cc.length:=by omega
    have hm:mxF A B Cc=bestF Cc (vertF A B Cc (-1)) (-1):=by unfold mxF;rw [if_pos ⟨h,bndL_yes hd⟩]
    have hb:=implBestA A B Cc (-1) h (.inr rfl)
    rw [← hm] at hb
    generalize mxF A B Cc=F at *
    repeat' (first | refine sq ?_ | refine stp ?_ | refine blk_o (by decide) ?_ | (apply cb;(focus (simp (disch:=(first | omega | (simp;omega))) only [go_sem,w64,ratsD,matD];try exact rfl));refine cok ?_) | (refine rgW ?_;intro K hK) | (refine dA ?_;intro K hK) | (with_reducible refine hK _ ?_;clear hK K) | (refine stq ?_;simp (disch:=(first | omega | (simp;omega))) only [go_sem,w64,ratsD,matD]) | refine as1 ?_ | fail)
    (first | refine callA (hb) ?_ | refine callD (hb) ?_ | refine callE (hb) ?_ | refine callF (hb) ?_ ?_)
    repeat' (first | refine sq ?_ | refine stp ?_ | refine blk_o (by decide) ?_ | (apply cb;(focus (simp (disch:=(first | omega | (simp;omega))) only [go_sem,w64,ansB,ratDV];try exact rfl));refine cok ?_) | (refine rgW ?_;intro K hK) | (refine dA ?_;intro K hK) | (with_reducible refine hK _ ?_;clear hK K) | (refine stq ?_;simp (disch:=(first | omega | (simp;omega))) only [go_sem,w64,ansB,ratDV]) | refine as1 ?_ | fail)
    (refine endA (r:=.tup [.d (whQ F.pt),.d (.agg [.int F.val.num,.int F.val.den]),.d (.bool F.found)]) ?_)
    exact ⟨rfl,rfl⟩
end
end Go.Proofs.YtkohkoiegmcghaaDoor
namespace Go.Proofs.YtkohkoiegmcghaaDoor
set_option linter.unusedSimpArgs false
set_option linter.unusedVariables false
open Go.RowKit
theorem vR_mk {t:Int×Int×Bool} (h:FitQ t) (ht:t.2.2=true):vR (rq t)=true:=h.1 ht
theorem dotTo_v {a b:List RatD}:∀ {k:Nat} {s:RatD},dotTo a b k=some s→vR s=true
 | 0,s,h=>by simp only [dotTo,Option.some.injEq] at h;subst h;decide +kernel
 | k+1,s,h=>by
  simp only [dotTo] at h
  split at h
  ·cases h
  ·split at h
   ·rename_i s0 _ hc
    simp only [Option.some.injEq] at h
    subst h
    exact vR_mk (fitAdd _ _) hc.2
   ·cases h
theorem dotF_v {a b:List RatD} {s:RatD} (h:dotF a b=some s):vR s=true:=by
 unfold dotF at h
 split at h
 ·exact dotTo_v h
 ·cases h
theorem cmpQ_lt {x y:RatD} (hx:vR x=true) (hy:vR y=true):cmpQ x y<0↔x.num*y.den<y.num*x.den:=by
 have hb:bothOK x.num x.den y.num y.den=true:=by simp only [bothOK,Bool.and_eq_true];exact ⟨hx,hy⟩
 unfold cmpQ cmpRat
 rw [if_pos hb]
 unfold cmpI
 split
 ·rename_i h;exact ⟨fun _=>h,fun _=>by decide⟩
 ·split
  ·rename_i h1 h2;exact ⟨fun h=>absurd h (by decide),fun h=>absurd h h1⟩
  ·rename_i h1 h2;exact ⟨fun h=>absurd h (by decide),fun h=>absurd h h1⟩
theorem vR_den {x:RatD} (h:vR x=true):0<x.den:=(ratOK_b h).2.2
theorem lt_tr {x y z:RatD} (hx:0<x.den) (hy:0<y.den) (hz:0<z.den) (h1:x.num*y.den<y.num*x.den) (h2:y.num*z.den≤z.num*y.den):x.num*z.den<z.num*x.den:=by
 have k1:x.num*y.den*z.den<y.num*x.den*z.den:=Int.mul_lt_mul_of_pos_right h1 hz
 have k2:y.num*z.den*x.den≤z.num*y.den*x.den:=Int.mul_le_mul_of_nonneg_right h2 (Int.le_of_lt hx)
 have e1:y.num*x.den*z.den=y.num*z.den*x.den:=by rw [Int.mul_right_comm]
 have e2:x.num*y.den*z.den=x.num*z.den*y.den:=by rw [Int.mul_right_comm]
 have e3:z.num*y.den*x.den=z.num*x.den*y.den:=by rw [Int.mul_right_comm]
 rw [e1] at k1
 have k3:x.num*z.den*y.den<z.num*x.den*y.den:=by omega
 exact Int.lt_of_mul_lt_mul_right k3 (Int.le_of_lt hy)
structure BestOK (C:List RatD) (V:List (List RatD)) (sg:Int) (b:BestS):Prop where
 at':b.found=true→b.pt∈V∧dotF C b.pt=some b.val
 best:∀ y∈V,∀ u,dotF C y=some u→b.found=true∧¬ sg*cmpQ u b.val<0
theorem cmpQ_neg {x y:RatD} (hx:vR x=true) (hy:vR y=true):(-1)*cmpQ x y<0↔y.num*x.den<x.num*y.den:=by
 have hb:bothOK x.num x.den y.num y.den=true:=by simp only [bothOK,Bool.and_eq_true];exact ⟨hx,hy⟩
 unfold cmpQ cmpRat
 rw [if_pos hb]
 unfold cmpI
 split
 ·rename_i h;exact ⟨fun h=>absurd h (by decide),fun _=>by omega⟩
 ·split
  ·rename_i h1 h2;exact ⟨fun _=>h2,fun _=>by decide⟩
  ·rename_i h1 h2;exact ⟨fun h=>absurd h (by decide),fun h=>absurd h h2⟩
theorem sg_tr {sg:Int} (hsg:sg=1∨sg = -1) {u v b:RatD} (hu:vR u=true) (hv:vR v=true) (hb:vR b=true) (h1:¬ sg*cmpQ u b<0) (h2:sg*cmpQ v b<0):¬ sg*cmpQ u v<0:=by
 have du:=vR_den hu
 have dv:=vR_den hv
 have db:=vR_den hb
 rcases hsg with rfl | rfl
 ·rw [Int.one_mul,cmpQ_lt] at h1 h2 ⊢ <;> try assumption
  intro h3
  exact h1 (lt_tr du dv db h3 (Int.le_of_lt h2))
 ·rw [cmpQ_neg] at h1 h2 ⊢ <;> try assumption
  intro h3
  exact h1 (lt_tr db dv du h2 (Int.le_of_lt h3))
theorem cmpQ_self (x:RatD):cmpQ x x=0:=by
 unfold cmpQ cmpRat cmpI
 split <;> simp
theorem best_ok (C:List RatD) (V:List (List RatD)) {sg:Int} (hsg:sg=1∨sg = -1):∀ i,i≤V.length→BestOK C (V.take i) sg (bestTo C V sg i)∧((bestTo C V sg i).found=false→bestTo C V sg i=best0)
 | 0,_=>by
  refine ⟨⟨fun h=>?_,fun y hy=>?_⟩,fun _=>rfl⟩
  ·simp [bestTo,best0] at h
  ·simp at hy
 | i+1,hi=>by
  obtain ⟨⟨h1,h2⟩,h3⟩:=best_ok C V hsg i (by omega)
  rw [bestTo_succ C sg (by omega)]
  have ht:V.take (i+1)=V.take i ++ [mx V i]:=by rw [List.take_add_one,List.getElem?_eq_getElem (by omega)];simp [mx,show i<V.length by omega]
  rw [ht]
  generalize bestTo C V sg i=b at *
  generalize mx V i=x at *
  unfold bestT
  cases hd:dotF C x with
  | none =>
   refine ⟨⟨fun h=>⟨List.mem_append_left _ (h1 h).1,(h1 h).2⟩,fun y hy u hu=>?_⟩,h3⟩
   rcases List.mem_append.1 hy with hy | hy
   ·exact h2 y hy u hu
   ·rw [List.mem_singleton] at hy;subst hy;rw [hd] at hu;cases hu
  | some v =>
   have hv:=dotF_v hd
   by_cases hb:b.found=false∨sg*cmpQ v b.val<0
   ·simp only [hb,if_true]
    refine ⟨⟨fun _=>⟨by simp,hd⟩,fun y hy u hu=>⟨rfl,?_⟩⟩,fun h=>(by cases h)⟩
    rcases List.mem_append.1 hy with hy | hy
    ·obtain ⟨g1,g2⟩:=h2 y hy u hu
     rcases hb with hb | hb
     ·rw [g1] at hb;cases hb
     ·exact sg_tr hsg (dotF_v hu) hv (dotF_v (h1 g1).2) g2 hb
    ·rw [List.mem_singleton] at hy;subst hy;rw [hd] at hu;cases hu
     rw [cmpQ_self];omega
   ·simp only [hb,if_false]
    have hf:b.found=true:=by
     cases e:b.found with
     | true=>rfl
     | false=>exact absurd (.inl e) hb
    refine ⟨⟨fun h=>⟨List.mem_append_left _ (h1 h).1,(h1 h).2⟩,fun y hy u hu=>?_⟩,h3⟩
    rcases List.mem_append.1 hy with hy | hy
    ·exact h2 y hy u hu
    ·rw [List.mem_singleton] at hy;subst hy;rw [hd] at hu;cases hu
     exact ⟨hf,fun h=>hb (.inr h)⟩
theorem bestF_ok (C:List RatD) (V:List (List RatD)) {sg:Int} (hsg:sg=1∨sg = -1):BestOK C V sg (bestF C V sg):=by
 have:=(best_ok C V hsg V.length (Nat.le_refl _)).1
 rwa [bestTo_all,List.take_length] at this
theorem leafF_feas {A:List (List RatD)} {B Cc:List RatD} {rows:List (List RatD)} {right:List RatD} {sg:Int} {ch:List Nat} {outs:List (List RatD)} (h:∀ y∈outs,feasF A B Cc y sg=true):∀ y∈leafF A B Cc rows right sg ch outs,feasF A B Cc y sg=true:=by
 unfold leafF
 split
 ·exact h
 ·rename_i x hx
  split
  ·rename_i hf
   split
   ·exact h
   ·intro y hy
    rcases List.mem_append.1 hy with hy | hy
    ·exact h y hy
    ·rw [List.mem_singleton] at hy;subst hy;exact hf
  ·exact h
theorem vert_feas {A:List (List RatD)} {B Cc:List RatD} {sg:Int} (h:lpV A B Cc=true):∀ y∈vertF A B Cc sg,feasF A B Cc y sg=true:=by
 rw [vert_pick h]
 exact foldl_inv (fun o:List (List RatD)=>∀ y∈o,feasF A B Cc y sg=true) _ _ _ (fun y hy=>(by cases hy)) fun a b _ ha=>leafF_feas ha
end Go.Proofs.YtkohkoiegmcghaaDoor
namespace Go.Proofs.YtkohkoiegmcghaaDoor
set_option linter.unusedSimpArgs false
set_option linter.unusedVariables false
open Go.RowKit
def S3 (x:RatD):Prop:=vR x=true∧(1≤x.den∧x.den≤3)∧x.num.natAbs≤3
theorem s3_six {x:RatD} (h:S3 x):∃ w:Int,w.natAbs≤18∧qv x=(w:Rat) / ((6:Int):Rat):=by
 obtain ⟨_,hd,hn⟩:=h
 have key:∀ q:Int,x.den*q=6→q.natAbs≤6→∃ w:Int,w.natAbs≤18∧qv x=(w:Rat) / ((6:Int):Rat):=fun q hq hb =>
  ⟨x.num*q,Nat.le_trans (abs_mul_le hn hb) (by omega),by
   unfold qv
   refine quot_conv (by omega) (by omega) ?_
   rw [Int.mul_assoc,Int.mul_comm q,hq]⟩
 have:x.den=1∨x.den=2∨x.den=3:=by omega
 rcases this with e | e | e
 ·exact key 6 (by omega) (by omega)
 ·exact key 3 (by omega) (by omega)
 ·exact key 2 (by omega) (by omega)
theorem dot_fits {a x:List RatD} {n:Nat} {D:Int} {X:Nat→Int} (hn:n≤5) (ha:a.length=n) (hx:x.length=n) (hs:∀ k,k<n→S3 (qx a k)) (hv:∀ k,k<n→vR (qx x k)=true) (hD:D ≠ 0) (hDb:D.natAbs≤34992) (hX:∀ k,k<n→(X k).natAbs≤34992∧qv (qx x k)=(X k:Rat) / (D:Rat)) :
 ∀ k,k≤n→∃ s,dotTo a x k=some s∧vR s=true∧∃ w:Int,w.natAbs≤k*629856∧qv s=(w:Rat) / ((6*D:Int):Rat)
 | 0,_=>⟨⟨0,1⟩,rfl,by decide,0,by omega,by simp [qv];grind⟩
 | k+1,hk=>by
  obtain ⟨s,e,v,w,hw,hq⟩:=dot_fits hn ha hx hs hv hD hDb hX k (by omega)
  obtain ⟨u,hu,hqu⟩:=s3_six (hs k (by omega))
  have h6:(6*D:Int) ≠ 0:=mul_ne (by omega) hD
  have hb6:(6*D).natAbs≤1000000000:=by omega
  have e1:qv (qx a k)*qv (qx x k)=((u*X k:Int):Rat) / ((6*D:Int):Rat):=by
   rw [hqu,(hX k (by omega)).2]
   have k1:=castNe (d:=6) (by omega)
   have k2:=castNe hD
   have k3:=castNe h6
   simp only [Rat.intCast_mul] at k3 ⊢
   have m1:=Rat.div_mul_cancel (a:=(u:Rat)) k1
   have m2:=Rat.div_mul_cancel (a:=(X k:Rat)) k2
   have m3:=Rat.div_mul_cancel (a:=(u:Rat)*(X k:Rat)) k3
   generalize (u:Rat) / ((6:Int):Rat)=P at *
   generalize (X k:Rat) / (D:Rat)=Q at *
   generalize (u:Rat)*(X k:Rat) / (((6:Int):Rat)*(D:Rat))=T at *
   have:(((6:Int):Rat)*(D:Rat))*(P*Q)=(((6:Int):Rat)*(D:Rat))*T:=by grind
   grind
  have hb1:(u*X k).natAbs≤629856:=Nat.le_trans (abs_mul_le hu (hX k (by omega)).1) (by omega)
  obtain ⟨p1,p2,p3⟩:=mulQ_fits (hs k (by omega)).1 (hv k (by omega)) (by rw [e1];exact fits_of h6 hb6 (by omega))
  have e2:qv s+qv (rq (mulQ (qx a k) (qx x k)))=((w+u*X k:Int):Rat) / ((6*D:Int):Rat):=by
   rw [p3,e1,hq,Rat.intCast_add]
   have:=castNe h6
   generalize ((6*D:Int):Rat)=T at *
   grind
  obtain ⟨q1,q2,q3⟩:=addQ_fits v p2 (by rw [e2];exact fits_of h6 hb6 (by omega))
  refine ⟨_,by simp only [dotTo,e];exact if_pos ⟨p1,q1⟩,q2,w+u*X k,by omega,by rw [q3,e2]⟩
theorem sub_range {i:Nat} {L:List Nat}:∀ (m k:Nat),(i :: L).Sublist (List.range' k m)→k≤i∧i<k+m∧L.Sublist (List.range' (i+1) (k+m - (i+1)))
 | 0,k,h=>by simp at h
 | m+1,k,h=>by
  rw [List.range'_succ] at h
  cases h with
  | cons _ h =>
   obtain ⟨h1,h2,h3⟩:=sub_range m (k+1) h
   exact ⟨by omega,by omega,by rwa [show k+(m+1) - (i+1)=k+1+m - (i+1) by omega]⟩
  | cons_cons _ h=>exact ⟨by omega,by omega,by rwa [show i+(m+1) - (i+1)=m by omega]⟩
theorem mem_pick (T:Nat):∀ (n k:Nat) (L:List Nat),L.Sublist (List.range' k (T - k))→L.length=n→L∈pickF T n k
 | 0,k,L,_,hl=>by rw [List.length_eq_zero_iff.1 hl];simp [pickF]
 | n+1,k,[],_,hl=>by simp at hl
 | n+1,k,i :: L,h,hl=>by
  obtain ⟨h1,h2,h3⟩:=sub_range _ _ h
  have hn:L.length=n:=by simpa using hl
  have hle:=h3.length_le
  rw [List.length_range'] at hle
  simp only [pickF,List.mem_flatMap,List.mem_map]
  refine ⟨i,by rw [List.mem_range'_1];omega,L,mem_pick T n (i+1) L (by rwa [show T - (i+1)=k+(T - k) - (i+1) by omega]) hn,rfl⟩
theorem aug_mx {rows:List (List RatD)} {right:List RatD} {i:Nat} (h:i<rows.length):mx (augF rows right) i=mx rows i ++ [qx right i]:=by simp [augF,mx,List.getD,h]
theorem aug_at {rows:List (List RatD)} {right:List RatD} {n i k:Nat} (hl:rows.length=n) (hi:i<n) (hr:(mx rows i).length=n) (hk:k<n+1):qx (mx (augF rows right) i) k=if k<n then qx (mx rows i) k else qx right i:=by
 rw [aug_mx (by omega)]
 simp only [qx,List.getD]
 by_cases c:k<n
 ·rw [if_pos c,List.getElem?_append_left (by omega)]
 ·rw [if_neg c,List.getElem?_append_right (by omega),show k - (mx rows i).length=0 by omega]
  rfl
theorem aug_val {rows:List (List RatD)} {right:List RatD} {n:Nat} (hl:rows.length=n) (hr:∀ i,i<n→(mx rows i).length=n) (hv:∀ i k,i<n→k<n→vR (qx (mx rows i) k)=true) (hb:∀ i,i<n→vR (qx right i)=true):ValM n (n+1) (augF rows right) :=
 ⟨⟨by simp [augF,hl],fun i hi=>by rw [aug_mx (by omega),List.length_append,hr i hi];rfl⟩,fun i k hi hk=>by
  rw [aug_at hl hi (hr i hi) hk]
  split
  ·exact hv i k hi (by assumption)
  ·exact hb i hi⟩
theorem gs_start {rows:List (List RatD)} {right:List RatD} {n:Nat} {x:Nat→Rat} (hl:rows.length=n) (hr:∀ i,i<n→(mx rows i).length=n)
 (h1:∀ d:Nat→Rat,(∀ i,i<n→sig (fun k=>qv (qx (mx rows i) k)*d k) n=0)→∀ j,j<n→d j=0) (h2:∀ i,i<n→sig (fun k=>qv (qx (mx rows i) k)*x k) n=qv (qx right i)):Gs n 0 (vM (augF rows right)) x:=by
 have e:∀ i,i<n→∀ v:Nat→Rat,sig (fun k=>vM (augF rows right) i k*v k) n=sig (fun k=>qv (qx (mx rows i) k)*v k) n:=fun i hi v=>sig_congr fun k hk=>by
  rw [vM,aug_at hl hi (hr i hi) (by omega),if_pos hk]
 refine ⟨fun i k _ hk=>absurd hk (Nat.not_lt_zero _),fun k hk=>absurd hk (Nat.not_lt_zero _),fun d hd=>h1 d fun i hi=>by rw [← e i hi];exact hd i hi,fun i hi=>?_⟩
 rw [e i hi,h2 i hi,vM,aug_at hl hi (hr i hi) (by omega),if_neg (by omega)]
theorem mvTo_run {M:List (List RatD)} {x:List RatD} {s:Nat→RatD} (h:∀ i,i<M.length→dotF (mx M i) x=some (s i)):∀ k,k≤M.length→mvTo M x k=some ((List.range k).map s)
 | 0,_=>rfl
 | k+1,hk=>by
  simp only [mvTo,mvTo_run h k (by omega),h k (by omega),List.range_succ,List.map_append,List.map_cons,List.map_nil]
theorem mvF_run {M:List (List RatD)} {x:List RatD} {s:Nat→RatD} (h:∀ i,i<M.length→dotF (mx M i) x=some (s i)):mvF M x=some ((List.range M.length).map s):=mvTo_run h _ (Nat.le_refl _)
theorem mv_fits {M:List (List RatD)} {x:List RatD} {n:Nat} {D:Int} {X:Nat→Int} (hn:n≤5) (ha:∀ i,i<M.length→(mx M i).length=n) (hx:x.length=n) (hs:∀ i,i<M.length→∀ k,k<n→S3 (qx (mx M i) k)) (hv:∀ k,k<n→vR (qx x k)=true) (hD:D ≠ 0) (hDb:D.natAbs≤34992) (hX:∀ k,k<n→(X k).natAbs≤34992∧qv (qx x k)=(X k:Rat) / (D:Rat)) :
 ∃ s:Nat→RatD,mvF M x=some ((List.range M.length).map s)∧∀ i,i<M.length→vR (s i)=true∧qv (s i)=sig (fun k=>qv (qx (mx M i) k)*qv (qx x k)) n:=by
 obtain ⟨s,hs'⟩:∃ s:Nat→RatD,∀ i,i<M.length→dotF (mx M i) x=some (s i) :=
  Classical.axiomOfChoice (r:=fun i (s:RatD)=>i<M.length→dotF (mx M i) x=some s) fun i=>by
   by_cases hi:i<M.length
   ·obtain ⟨s,e,_⟩:=dot_fits hn (ha i hi) hx (hs i hi) hv hD hDb hX n (Nat.le_refl _)
    exact ⟨s,fun _=>by unfold dotF;rw [ha i hi,hx,if_pos rfl];exact e⟩
   ·exact ⟨⟨0,1⟩,fun g=>absurd g hi⟩
 refine ⟨s,mvF_run hs',fun i hi=>?_⟩
 obtain ⟨_,h2,h3⟩:=dotF_sig (hs' i hi)
 rw [ha i hi] at h3
 exact ⟨h2,h3⟩
theorem qv_nonneg {x:RatD} (hx:vR x=true):0≤qv x↔0≤x.num:=by
 have h:=qv_lt (x:=x) (y:=⟨0,1⟩) (vR_pos hx) (by decide)
 have e:qv ⟨0,1⟩=0:=by simp [qv];grind
 rw [e] at h
 simp only [Int.mul_one,Int.zero_mul] at h
 constructor
 ·intro h1
  exact Int.not_lt.1 fun h2=>by have:=h.2 h2;grind
 ·intro h1
  by_cases c:qv x<0
  ·have:=h.1 c;omega
  ·grind
theorem posL_of {x:List RatD} (h:∀ i,i<x.length→vR (qx x i)=true∧0≤qv (qx x i)):posL x=true :=
 List.all_eq_true.2 fun i hi=>decide_eq_true (by
  obtain ⟨h1,h2⟩:=h i (List.mem_range.1 hi)
  exact (qv_nonneg h1).1 h2)
theorem cmpQ_ge {x y:RatD} (hx:vR x=true) (hy:vR y=true):¬ 1*cmpQ x y<0↔qv y≤qv x:=by
 rw [Int.one_mul,cmpQ_lt hx hy,← qv_lt (vR_pos hx) (vR_pos hy)];grind
theorem cmpQ_le {x y:RatD} (hx:vR x=true) (hy:vR y=true):¬ (-1)*cmpQ x y<0↔qv x≤qv y:=by
 rw [cmpQ_neg hx hy,← qv_lt (vR_pos hy) (vR_pos hx)];grind
theorem sideL_ge {l B:List RatD} (h:∀ i,i<l.length→vR (qx l i)=true∧vR (qx B i)=true):sideL l B 1=true↔∀ i,i<l.length→qv (qx B i)≤qv (qx l i):=by
 unfold sideL
 rw [List.all_eq_true]
 constructor
 ·intro g i hi
  have:=of_decide_eq_true (g i (List.mem_range.2 hi))
  exact (cmpQ_ge (h i hi).1 (h i hi).2).1 (by omega)
 ·intro g i hi
  have hi':=List.mem_range.1 hi
  have:=(cmpQ_ge (h i hi').1 (h i hi').2).2 (g i hi')
  exact decide_eq_true (by omega)
theorem sideL_le {l B:List RatD} (h:∀ i,i<l.length→vR (qx l i)=true∧vR (qx B i)=true):sideL l B (-1)=true↔∀ i,i<l.length→qv (qx l i)≤qv (qx B i):=by
 unfold sideL
 rw [List.all_eq_true]
 constructor
 ·intro g i hi
  have:=of_decide_eq_true (g i (List.mem_range.2 hi))
  exact (cmpQ_le (h i hi).1 (h i hi).2).1 (by omega)
 ·intro g i hi
  have hi':=List.mem_range.1 hi
  have:=(cmpQ_le (h i hi').1 (h i hi').2).2 (g i hi')
  exact decide_eq_true (by omega)
section
variable {A:List (List RatD)} {B Cc:List RatD} {rows:List (List RatD)} {right:List RatD} {sg:Int}
theorem leafF_mono {ch:List Nat} {outs:List (List RatD)} {y:List RatD} (h:y∈outs):y∈leafF A B Cc rows right sg ch outs:=by
 unfold leafF
 split
 ·exact h
 ·split
  ·split
   ·exact h
   ·exact List.mem_append_left _ h
  ·exact h
theorem eqQ_out {a b:List RatD} (h:eqQ a b=true):a.length=b.length∧∀ i,i<a.length→qx a i=qx b i:=by
 simp only [eqQ,Bool.and_eq_true,decide_eq_true_eq,List.all_eq_true,List.mem_range,sameQ] at h
 refine ⟨h.1,fun i hi=>?_⟩
 obtain ⟨h1,h2⟩:=h.2 i hi
 cases ea:qx a i;cases eb:qx b i
 rw [ea,eb] at h1 h2
 simp only at h1 h2
 rw [h1,h2]
theorem leafF_new {ch:List Nat} {x:List RatD} (hs:solF (ch.map (mx rows ·)) (ch.map (qx right ·))=some x) (hf:feasF A B Cc x sg=true) (outs:List (List RatD)):∃ y∈leafF A B Cc rows right sg ch outs,y.length=x.length∧∀ i,i<x.length→qx y i=qx x i:=by
 unfold leafF
 rw [hs]
 simp only [hf,if_true]
 split
 ·rename_i h
  obtain ⟨y,hy,he⟩:=List.any_eq_true.1 h
  obtain ⟨h1,h2⟩:=eqQ_out he
  exact ⟨y,hy,h1.symm,fun i hi=>(h2 i hi).symm⟩
 ·exact ⟨x,by simp,rfl,fun _ _=>rfl⟩
theorem foldl_leaf_mono {y:List RatD}:∀ (L:List (List Nat)) (outs:List (List RatD)),y∈outs→y∈L.foldl (fun o c=>leafF A B Cc rows right sg c o) outs
 | [],_,h=>h
 | _ :: L,_,h=>foldl_leaf_mono L _ (leafF_mono h)
theorem foldl_leaf {ch:List Nat} {x:List RatD} (hs:solF (ch.map (mx rows ·)) (ch.map (qx right ·))=some x) (hf:feasF A B Cc x sg=true):∀ (L:List (List Nat)) (outs:List (List RatD)),ch∈L→∃ y∈L.foldl (fun o c=>leafF A B Cc rows right sg c o) outs,y.length=x.length∧∀ i,i<x.length→qx y i=qx x i
 | [],_,h=>(by cases h)
 | c :: L,outs,h=>by
  rcases List.mem_cons.1 h with rfl | h
  ·obtain ⟨y,hy,h1⟩:=leafF_new hs hf outs
   exact ⟨y,foldl_leaf_mono L _ hy,h1⟩
  ·exact foldl_leaf hs hf L _ h
end
theorem mx_map {rows:List (List RatD)} {L:List Nat} {i:Nat} (h:i<L.length):mx (L.map (mx rows ·)) i=mx rows (L.getD i 0):=by simp [mx,List.getD,h]
theorem qx_map {right:List RatD} {L:List Nat} {i:Nat} (h:i<L.length):qx (L.map (qx right ·)) i=qx right (L.getD i 0):=by simp [qx,List.getD,h]
theorem rows_lo {A:List (List RatD)} {n i:Nat} (h:i<A.length):mx (rowsF A n) i=mx A i:=by simp [rowsF,mx,List.getD,List.getElem?_append_left h]
theorem rows_hi {A:List (List RatD)} {n j:Nat} (h:j<n):mx (rowsF A n) (A.length+j)=unitR n j:=by
 simp [rowsF,mx,List.getD,h]
theorem right_lo {B:List RatD} {n i:Nat} (h:i<B.length):qx (rightF B n) i=qx B i:=by simp [rightF,qx,List.getD,List.getElem?_append_left h]
theorem right_hi {B:List RatD} {n j:Nat} (h:j<n):qx (rightF B n) (B.length+j)=⟨0,1⟩:=by
 simp [rightF,qx,List.getD,h]
theorem unit_at {n i k:Nat} (h:k<n):qx (unitR n i) k=⟨if i=k then 1 else 0,1⟩:=by simp [unitR,qx,List.getD,h]
theorem qv01:qv ⟨0,1⟩=0∧qv ⟨1,1⟩=1:=by
 constructor
 ·simp [qv];grind
 ·simp [qv];grind
theorem rows_s3 {A:List (List RatD)} {B:List RatD} {n:Nat} (hl:A.length=B.length) (hA:∀ i,i<A.length→(mx A i).length=n∧∀ k,k<n→S3 (qx (mx A i) k)) (hB:∀ i,i<B.length→S3 (qx B i)):∀ i,i<B.length+n →
 ((mx (rowsF A n) i).length=n∧(∀ k,k<n→S3 (qx (mx (rowsF A n) i) k))∧S3 (qx (rightF B n) i))∧(∀ k,k<n→qv (qx (mx (rowsF A n) i) k)=gR B.length (fun i k=>qv (qx (mx A i) k)) i k)∧qv (qx (rightF B n) i)=hR B.length (fun i=>qv (qx B i)) i:=by
 intro i hi
 by_cases c:i<B.length
 ·rw [rows_lo (by omega),right_lo c]
  refine ⟨⟨(hA i (by omega)).1,(hA i (by omega)).2,hB i c⟩,fun k hk=>?_,?_⟩
  ·simp only [gR,c,if_true]
  ·simp only [hR,c,if_true]
 ·obtain ⟨j,rfl⟩:∃ j,i=B.length+j:=⟨i - B.length,by omega⟩
  have hj:j<n:=by omega
  have e1:mx (rowsF A n) (B.length+j)=unitR n j:=by rw [← hl];exact rows_hi hj
  rw [e1,right_hi hj]
  refine ⟨⟨by simp [unitR],fun k hk=>?_,by refine ⟨by decide,⟨by decide,by decide⟩,by decide⟩⟩,fun k hk=>?_,?_⟩
  ·rw [unit_at hk]
   by_cases e:j=k
   ·rw [if_pos e];exact ⟨by decide,⟨by decide,by decide⟩,by decide⟩
   ·rw [if_neg e];exact ⟨by decide,⟨by decide,by decide⟩,by decide⟩
  ·rw [unit_at hk]
   simp only [gR,c,if_false,show B.length+j - B.length=j by omega]
   by_cases e:j=k
   ·subst e;simp only [if_true];exact qv01.2
   ·rw [if_neg e,if_neg (fun h=>e h.symm)];exact qv01.1
  ·simp only [hR,c,if_false];exact qv01.1
end Go.Proofs.YtkohkoiegmcghaaDoor
