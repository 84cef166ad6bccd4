/- Lemmas for the proof of FnCoverDuality, part 9 of 26: no condition of their own. -/
import Derived.Test.YtkohkoiegmcghaaDoorJ8
namespace Go.Proofs.YtkohkoiegmcghaaDoor
set_option linter.unusedSimpArgs false
set_option linter.unusedVariables false
attribute [local go_sem ↓] reduceIte
attribute [local go_sem] Nat.reduceEqDiff Nat.reduceLT Nat.reduceAdd Nat.reduceLeDiff Nat.reduceMul Nat.reduceBEq Nat.reduceSub reduceCtorEq Int.reduceLE Int.reduceNeg Int.reduceLT
open Go.RowKit
theorem getDq {l:List RatD} {i:Nat} {x:DV} (h:i<l.length):(l.map ratDV).getD i x=ratDV (qx l i):=by simp [List.getD,qx,h]
theorem getDm {M:List (List RatD)} {i:Nat} {x:DV} (h:i<M.length):(M.map ratsD).getD i x=ratsD (mx M i):=by simp [List.getD,mx,h]
abbrev matD (M:List (List RatD)):DV:=.sl 1 (M.map ratsD)
def vL (l:List RatD):Bool:=l.all vR
theorem vL_yes {l:List RatD} (h:∀ j,j<l.length→vR (qx l j)=true):vL l=true:=by
 refine List.all_eq_true.2 fun x hx=>?_
 obtain ⟨i,hi,rfl⟩:=List.mem_iff_getElem.1 hx
 have:=h i hi
 rwa [qx_lt hi] at this
theorem vL_no {l:List RatD} {j:Nat} (hj:j<l.length) (h:vR (qx l j)=false):vL l=false:=by
 cases e:vL l with
 | false=>rfl
 | true =>
  have:=List.all_eq_true.1 e (qx l j) (by rw [qx_lt hj];exact List.getElem_mem _)
  rw [h] at this;cases this
theorem vL_at {l:List RatD} (h:vL l=true) {j:Nat} (hj:j<l.length):vR (qx l j)=true:=by
 rw [qx_lt hj];exact List.all_eq_true.1 h _ (List.getElem_mem _)
theorem allValidA (l:List RatD) (hl:l.length≤1048576):AFn 75 [.d (ratsD l)] [] (fun r os=>r=.d (.bool (vL l))∧os=[]):=by
 refine afn_of (rv:=[.tmp 2]) tyT_ok Tryd.func75 rfl (by decide +kernel) Tryd.ntmps75 rfl (by simp) ?_
 repeat' (first | refine sq ?_ | refine stp ?_ | refine blk_o (by decide) ?_ | (apply cb;(focus (simp (disch:=(first | omega | (simp;omega))) only [go_sem,w64,ratsD];try exact rfl));refine cok ?_) | (refine rgT ?_;intro K hK) | (refine dA ?_;intro K hK) | (with_reducible refine hK _ ?_;clear hK K) | (refine stq ?_;simp (disch:=(first | omega | (simp;omega))) only [go_sem,w64,ratsD]) | refine as1 ?_ | fail)
 refine awp_loopw (fun m s=>∃ k,m=l.length - k∧k≤l.length∧(∀ j,j<k→vR (qx l j)=true)∧s=mkS [(5,.d (ratsD l)),(6,.d (.int (l.length:Nat))),(7,.d (.int (k:Nat)))] []) ?_ ?_
 ·refine ⟨_,_,?_,0,rfl,Nat.zero_le _,fun j h=>absurd h (Nat.not_lt_zero _),rfl⟩
  (refine sle_mk ?_ ?_ <;> simp (disch:=(first | omega | (simp;omega))) only [go_sem,w64,ratsD] <;> exact leafs)
 ·rintro m s ⟨k,rfl,hk,hd,rfl⟩
  repeat' (first | refine sq ?_ | refine stp ?_ | refine blk_o (by decide) ?_ | (apply cb;(focus (simp (disch:=(first | omega | (simp;omega))) only [go_sem,w64,ratsD];try exact rfl));refine cok ?_) | (refine rgT ?_;intro K hK) | (refine dA ?_;intro K hK) | (with_reducible refine hK _ ?_;clear hK K) | (refine stq ?_;simp (disch:=(first | omega | (simp;omega))) only [go_sem,w64,ratsD]) | refine as1 ?_ | fail)
  refine awp_if (p:=(k:Int)<l.length) (by simp (disch:=(first | omega | (simp;omega))) only [go_sem,w64]) ?_ ?_ <;> intro hc
  ·have hk2:k<l.length:=by omega
   repeat' (first | refine sq ?_ | refine stp ?_ | refine blk_o (by decide) ?_ | (apply cb;(focus (simp (disch:=(first | omega | (simp;omega))) only [go_sem,w64,ratsD,getDq,ratDV];try exact rfl));refine cok ?_) | (refine rgT ?_;intro K hK) | (refine dA ?_;intro K hK) | (with_reducible refine hK _ ?_;clear hK K) | (refine stq ?_;simp (disch:=(first | omega | (simp;omega))) only [go_sem,w64,ratsD,getDq,ratDV]) | refine as1 ?_ | fail)
   (first | refine callA (implValidRA (qx l k)) ?_ | refine callD (implValidRA (qx l k)) ?_ | refine callE (implValidRA (qx l k)) ?_ | refine callF (implValidRA (qx l k)) ?_ ?_)
   cases hv:vR (qx l k) with
   | false =>
    repeat' (first | refine sq ?_ | refine stp ?_ | refine blk_o (by decide) ?_ | (apply cb;(focus (simp (disch:=(first | omega | (simp;omega))) only [go_sem,w64];try exact rfl));refine cok ?_) | (refine rgT ?_;intro K hK) | (refine dA ?_;intro K hK) | (with_reducible refine hK _ ?_;clear hK K) | (refine stq ?_;simp (disch:=(first | omega | (simp;omega))) only [go_sem,w64]) | refine as1 ?_ | fail)
    (refine endA (r:=.d (.bool false)) ?_)
    exact ⟨by rw [vL_no hk2 hv],rfl⟩
   | true =>
    repeat' (first | refine sq ?_ | refine stp ?_ | refine blk_o (by decide) ?_ | (apply cb;(focus (simp (disch:=(first | omega | (simp;omega))) only [go_sem,w64];try exact rfl));refine cok ?_) | (refine rgT ?_;intro K hK) | (refine dA ?_;intro K hK) | (with_reducible refine hK _ ?_;clear hK K) | (refine stq ?_;simp (disch:=(first | omega | (simp;omega))) only [go_sem,w64]) | refine as1 ?_ | fail)
    refine ⟨l.length - (k+1),_,by omega,?_,k+1,rfl,by omega,fun j hj=>?_,rfl⟩
    ·(refine sle_mk ?_ ?_ <;> simp (disch:=(first | omega | (simp;omega))) only [go_sem,w64,ratsD] <;> exact leafs)
    ·by_cases e:j=k
     ·subst e;exact hv
     ·exact hd j (by omega)
  ·obtain rfl:k=l.length:=by omega
   repeat' (first | refine sq ?_ | refine stp ?_ | refine blk_o (by decide) ?_ | (apply cb;(focus (simp (disch:=(first | omega | (simp;omega))) only [go_sem,w64];try exact rfl));refine cok ?_) | (refine rgT ?_;intro K hK) | (refine dA ?_;intro K hK) | (with_reducible refine hK _ ?_;clear hK K) | (refine stq ?_;simp (disch:=(first | omega | (simp;omega))) only [go_sem,w64]) | refine as1 ?_ | fail)
   (refine endA (r:=.d (.bool true)) ?_)
   exact ⟨by rw [vL_yes hd],rfl⟩
def rowV (m:Nat) (r:List RatD):Bool:=decide (r.length=m) && vL r
def matOK (M:List (List RatD)) (n m:Nat):Bool:=decide (M.length=n) && M.all (rowV m)
theorem matOK_rows {M:List (List RatD)} {m:Nat} (h:∀ j,j<M.length→rowV m (mx M j)=true):M.all (rowV m)=true:=by
 refine List.all_eq_true.2 fun x hx=>?_
 obtain ⟨i,hi,rfl⟩:=List.mem_iff_getElem.1 hx
 have:=h i hi
 rwa [mx_lt hi] at this
theorem matOK_no {M:List (List RatD)} {m j:Nat} (hj:j<M.length) (h:rowV m (mx M j)=false):M.all (rowV m)=false:=by
 cases e:M.all (rowV m) with
 | false=>rfl
 | true =>
  have:=List.all_eq_true.1 e (mx M j) (by rw [mx_lt hj];exact List.getElem_mem _)
  rw [h] at this;cases this
theorem matOK_out {M:List (List RatD)} {n m:Nat} (h:matOK M n m=true):M.length=n∧∀ i,i<M.length→(mx M i).length=m∧vL (mx M i)=true:=by
 simp only [matOK,Bool.and_eq_true,decide_eq_true_eq] at h
 refine ⟨h.1,fun i hi=>?_⟩
 have:=List.all_eq_true.1 h.2 (mx M i) (by rw [mx_lt hi];exact List.getElem_mem _)
 simpa [rowV] using this
set_option maxHeartbeats 1000000 in
theorem squareA (M:List (List RatD)) (n m:Nat) (hn:M.length≤1048576) (hm:m≤1048576) (hnn:n≤1048576):AFn 47 [.d (matD M),.d (.int n),.d (.int m)] [] (fun r os=>r=.d (.bool (matOK M n m))∧os=[]):=by
 refine afn_of (rv:=[.tmp 6]) tyT_ok Tryd.func47 rfl (by decide +kernel) Tryd.ntmps47 rfl (by simp) ?_
 repeat' (first | refine sq ?_ | refine stp ?_ | refine blk_o (by decide) ?_ | (apply cb;(focus (simp (disch:=(first | omega | (simp;omega))) only [go_sem,w64,matD];try exact rfl));refine cok ?_) | (refine rgT ?_;intro K hK) | (refine dA ?_;intro K hK) | (with_reducible refine hK _ ?_;clear hK K) | (refine stq ?_;simp (disch:=(first | omega | (simp;omega))) only [go_sem,w64,matD]) | refine as1 ?_ | fail)
 refine awp_loopw (fun mm s=>∃ i,mm=M.length - i∧i≤M.length∧(∀ j,j<i→rowV m (mx M j)=true)∧s=mkS [(0,.d (matD M)),(1,.d (.int (n:Nat))),(2,.d (.int (m:Nat))),(7,.d (.int (i:Nat)))] []) ?_ ?_
 ·refine ⟨_,_,?_,0,rfl,Nat.zero_le _,fun j h=>absurd h (Nat.not_lt_zero _),rfl⟩
  (refine sle_mk ?_ ?_ <;> simp (disch:=(first | omega | (simp;omega))) only [go_sem,w64,matD] <;> exact leafs)
 ·rintro mm s ⟨i,rfl,hi,hd,rfl⟩
  repeat' (first | refine sq ?_ | refine stp ?_ | refine blk_o (by decide) ?_ | (apply cb;(focus (simp (disch:=(first | omega | (simp;omega))) only [go_sem,w64,matD];try exact rfl));refine cok ?_) | (refine rgT ?_;intro K hK) | (refine dA ?_;intro K hK) | (with_reducible refine hK _ ?_;clear hK K) | (refine stq ?_;simp (disch:=(first | omega | (simp;omega))) only [go_sem,w64,matD]) | refine as1 ?_ | fail)
  refine awp_if (p:=(i:Int)<M.length) (by simp (disch:=(first | omega | (simp;omega))) only [go_sem,w64]) ?_ ?_ <;> intro hc
  ·have hi2:i<M.length:=by omega
   have g0:(M.map ratsD).getD i (.bool false)=ratsD (mx M i):=getDm hi2
   by_cases hr:(((mx M i).length:Nat):Int)=(m:Nat)
   ·have hr':(mx M i).length=m:=by omega
    have z1:decide ((((mx M i).length:Nat):Int)=(m:Nat))=true:=decide_eq_true hr
    repeat' (first | refine sq ?_ | refine stp ?_ | refine blk_o (by decide) ?_ | (apply cb;(focus (simp (disch:=(first | omega | (simp;omega))) only [go_sem,w64,matD,g0,ratsD,z1];try exact rfl));refine cok ?_) | (refine rgT ?_;intro K hK) | (refine dA ?_;intro K hK) | (with_reducible refine hK _ ?_;clear hK K) | (refine stq ?_;simp (disch:=(first | omega | (simp;omega))) only [go_sem,w64,matD,g0,ratsD,z1]) | refine as1 ?_ | fail)
    refine awp_loopw (fun mm s=>∃ k,mm=m - k∧k≤m∧(∀ j,j<k→vR (qx (mx M i) j)=true)∧s=mkS [(0,.d (matD M)),(1,.d (.int (n:Nat))),(2,.d (.int (m:Nat))),(7,.d (.int (i:Nat))),(8,.d (.int (k:Nat)))] []) ?_ ?_
    ·refine ⟨_,_,?_,0,rfl,Nat.zero_le _,fun j h=>absurd h (Nat.not_lt_zero _),rfl⟩
     (refine sle_mk ?_ ?_ <;> simp (disch:=(first | omega | (simp;omega))) only [go_sem,w64,matD] <;> exact leafs)
    ·rintro mm s ⟨k,rfl,hk,hd2,rfl⟩
     repeat' (first | refine sq ?_ | refine stp ?_ | refine blk_o (by decide) ?_ | (apply cb;(focus (simp (disch:=(first | omega | (simp;omega))) only [go_sem,w64,matD];try exact rfl));refine cok ?_) | (refine rgT ?_;intro K hK) | (refine dA ?_;intro K hK) | (with_reducible refine hK _ ?_;clear hK K) | (refine stq ?_;simp (disch:=(first | omega | (simp;omega))) only [go_sem,w64,matD]) | refine as1 ?_ | fail)
     refine awp_if (p:=(k:Int)<(m:Nat)) (by simp (disch:=(first | omega | (simp;omega))) only [go_sem,w64]) ?_ ?_ <;> intro hc2
     ·have hk2:k<(mx M i).length:=by omega
      have g1:((mx M i).map ratDV).getD k (.bool false)=ratDV (qx (mx M i) k):=getDq hk2
      repeat' (first | refine sq ?_ | refine stp ?_ | refine blk_o (by decide) ?_ | (apply cb;(focus (simp (disch:=(first | omega | (simp;omega))) only [go_sem,w64,matD,g0,ratsD,g1,ratDV];try exact rfl));refine cok ?_) | (refine rgT ?_;intro K hK) | (refine dA ?_;intro K hK) | (with_reducible refine hK _ ?_;clear hK K) | (refine stq ?_;simp (disch:=(first | omega | (simp;omega))) only [go_sem,w64,matD,g0,ratsD,g1,ratDV]) | refine as1 ?_ | fail)
      (first | refine callA (specValidRA (qx (mx M i) k)) ?_ | refine callD (specValidRA (qx (mx M i) k)) ?_ | refine callE (specValidRA (qx (mx M i) k)) ?_ | refine callF (specValidRA (qx (mx M i) k)) ?_ ?_)
      cases hv:vR (qx (mx M i) k) with
      | false =>
       repeat' (first | refine sq ?_ | refine stp ?_ | refine blk_o (by decide) ?_ | (apply cb;(focus (simp (disch:=(first | omega | (simp;omega))) only [go_sem,w64];try exact rfl));refine cok ?_) | (refine rgT ?_;intro K hK) | (refine dA ?_;intro K hK) | (with_reducible refine hK _ ?_;clear hK K) | (refine stq ?_;simp (disch:=(first | omega | (simp;omega))) only [go_sem,w64]) | refine as1 ?_ | fail)
       (refine endA (r:=.d (.bool false)) ?_)
       exact ⟨by unfold matOK;rw [matOK_no hi2 (by unfold rowV;rw [vL_no hk2 hv,Bool.and_false]),Bool.and_false],rfl⟩
      | true =>
       repeat' (first | refine sq ?_ | refine stp ?_ | refine blk_o (by decide) ?_ | (apply cb;(focus (simp (disch:=(first | omega | (simp;omega))) only [go_sem,w64];try exact rfl));refine cok ?_) | (refine rgT ?_;intro K hK) | (refine dA ?_;intro K hK) | (with_reducible refine hK _ ?_;clear hK K) | (refine stq ?_;simp (disch:=(first | omega | (simp;omega))) only [go_sem,w64]) | refine as1 ?_ | fail)
       refine ⟨m - (k+1),_,by omega,?_,k+1,rfl,by omega,fun j hj=>?_,rfl⟩
       ·(refine sle_mk ?_ ?_ <;> simp (disch:=(first | omega | (simp;omega))) only [go_sem,w64,matD] <;> exact leafs)
       ·by_cases e:j=k
        ·subst e;exact hv
        ·exact hd2 j (by omega)
     ·obtain rfl:k=m:=by omega
      repeat' (first | refine sq ?_ | refine stp ?_ | refine blk_o (by decide) ?_ | (apply cb;(focus (simp (disch:=(first | omega | (simp;omega))) only [go_sem,w64];try exact rfl));refine cok ?_) | (refine rgT ?_;intro K hK) | (refine dA ?_;intro K hK) | (with_reducible refine hK _ ?_;clear hK K) | (refine stq ?_;simp (disch:=(first | omega | (simp;omega))) only [go_sem,w64]) | refine as1 ?_ | fail)
      refine ⟨M.length - (i+1),_,by omega,?_,i+1,rfl,by omega,fun j hj=>?_,rfl⟩
      ·(refine sle_mk ?_ ?_ <;> simp (disch:=(first | omega | (simp;omega))) only [go_sem,w64,matD] <;> exact leafs)
      ·by_cases e:j=i
       ·subst e
        unfold rowV
        rw [decide_eq_true hr',vL_yes (fun j hj=>hd2 j (by omega))];rfl
       ·exact hd j (by omega)
   ·have z1:decide ((((mx M i).length:Nat):Int)=(m:Nat))=false:=decide_eq_false hr
    repeat' (first | refine sq ?_ | refine stp ?_ | refine blk_o (by decide) ?_ | (apply cb;(focus (simp (disch:=(first | omega | (simp;omega))) only [go_sem,w64,matD,g0,ratsD,z1];try exact rfl));refine cok ?_) | (refine rgT ?_;intro K hK) | (refine dA ?_;intro K hK) | (with_reducible refine hK _ ?_;clear hK K) | (refine stq ?_;simp (disch:=(first | omega | (simp;omega))) only [go_sem,w64,matD,g0,ratsD,z1]) | refine as1 ?_ | fail)
    (refine endA (r:=.d (.bool false)) ?_)
    exact ⟨by unfold matOK;rw [matOK_no hi2 (by unfold rowV;rw [decide_eq_false (by omega)];rfl),Bool.and_false],rfl⟩
  ·obtain rfl:i=M.length:=by omega
   repeat' (first | refine sq ?_ | refine stp ?_ | refine blk_o (by decide) ?_ | (apply cb;(focus (simp (disch:=(first | omega | (simp;omega))) only [go_sem,w64,matD];try exact rfl));refine cok ?_) | (refine rgT ?_;intro K hK) | (refine dA ?_;intro K hK) | (with_reducible refine hK _ ?_;clear hK K) | (refine stq ?_;simp (disch:=(first | omega | (simp;omega))) only [go_sem,w64,matD]) | refine as1 ?_ | fail)
   (refine endA (r:=.d (.bool (decide (((M.length:Nat):Int)=(n:Nat))))) ?_)
   refine ⟨?_,rfl⟩
   unfold matOK
   rw [matOK_rows hd,Bool.and_true]
   exact congrArg (fun b=>AV.d (.bool b)) (decide_eq_decide.2 ⟨fun h=>by omega,fun h=>by omega⟩)
def dotTo (a b:List RatD):Nat→Option RatD
 | 0=>some ⟨0,1⟩
 | k+1=>match dotTo a b k with
  | none=>none
  | some s=>if (mulQ (qx a k) (qx b k)).2.2=true∧(addQ s (rq (mulQ (qx a k) (qx b k)))).2.2=true then some (rq (addQ s (rq (mulQ (qx a k) (qx b k))))) else none
theorem dotTo_none {a b:List RatD} {k:Nat} (h:dotTo a b k=none):∀ j,k≤j→dotTo a b j=none:=by
 intro j hj
 induction hj with
 | refl=>exact h
 | step _ ih=>simp only [dotTo,ih]
def dotF (a b:List RatD):Option RatD:=if a.length=b.length then dotTo a b a.length else none
def ansQ:Option RatD→AV
 | some x=>.tup [.d (ratDV x),.d (.bool true)]
 | none=>.tup [.d (ratDV ⟨0,0⟩),.d (.bool false)]
set_option maxHeartbeats 1000000 in
theorem implDotA (a b:List RatD) (ha:a.length≤1048576) (hb:b.length≤1048576):AFn 77 [.d (ratsD a),.d (ratsD b)] [] (fun r os=>r=ansQ (dotF a b)∧os=[]):=by
 refine afn_of (rv:=[.cell 4 33,.tmp 5]) tyT_ok Tryd.func77 rfl (by decide +kernel) Tryd.ntmps77 rfl (by simp) ?_
 by_cases hl:((a.length:Nat):Int)=(b.length:Nat)
 ·have z1:decide (((a.length:Nat):Int)=(b.length:Nat))=true:=decide_eq_true hl
  have hf:dotF a b=dotTo a b a.length:=if_pos (by omega)
  repeat' (first | refine sq ?_ | refine stp ?_ | refine blk_o (by decide) ?_ | (apply cb;(focus (simp (disch:=(first | omega | (simp;omega))) only [go_sem,w64,ratsD,z1];try exact rfl));refine cok ?_) | (refine rgT ?_;intro K hK) | (refine dA ?_;intro K hK) | (with_reducible refine hK _ ?_;clear hK K) | (refine stq ?_;simp (disch:=(first | omega | (simp;omega))) only [go_sem,w64,ratsD,z1]) | refine as1 ?_ | fail)
  refine awp_loopw (fun mm s=>∃ k x,mm=a.length - k∧k≤a.length∧dotTo a b k=some x∧s=mkS [(0,.d (ratsD a)),(1,.d (ratsD b)),(4,.ptr 4 0),(6,.ptr 6 0),(20,.d (.int (a.length:Nat))),(21,.d (.int (k:Nat)))] [(4,[.d (.int 0),.d (.int 0)]),(6,[.d (.int x.num),.d (.int x.den)])]) ?_ ?_
  ·refine ⟨_,_,?_,0,⟨0,1⟩,rfl,Nat.zero_le _,rfl,rfl⟩
   (refine sle_mk ?_ ?_ <;> simp (disch:=(first | omega | (simp;omega))) only [go_sem,w64,ratsD] <;> exact leafs)
  ·rintro mm s ⟨k,x,rfl,hk,hx,rfl⟩
   repeat' (first | refine sq ?_ | refine stp ?_ | refine blk_o (by decide) ?_ | (apply cb;(focus (simp (disch:=(first | omega | (simp;omega))) only [go_sem,w64,ratsD];try exact rfl));refine cok ?_) | (refine rgT ?_;intro K hK) | (refine dA ?_;intro K hK) | (with_reducible refine hK _ ?_;clear hK K) | (refine stq ?_;simp (disch:=(first | omega | (simp;omega))) only [go_sem,w64,ratsD]) | refine as1 ?_ | fail)
   refine awp_if (p:=(k:Int)<(a.length:Nat)) (by simp (disch:=(first | omega | (simp;omega))) only [go_sem,w64]) ?_ ?_ <;> intro hc
   ·have hk2:k<a.length:=by omega
    have hk3:k<b.length:=by omega
    have g1:(a.map ratDV).getD k (.bool false)=ratDV (qx a k):=getDq hk2
    have g2:(b.map ratDV).getD k (.bool false)=ratDV (qx b k):=getDq hk3
    have hs:dotTo a b (k+1)=if (mulQ (qx a k) (qx b k)).2.2=true∧(addQ x (rq (mulQ (qx a k) (qx b k)))).2.2=true then some (rq (addQ x (rq (mulQ (qx a k) (qx b k))))) else none:=by simp only [dotTo,hx]
    repeat' (first | refine sq ?_ | refine stp ?_ | refine blk_o (by decide) ?_ | (apply cb;(focus (simp (disch:=(first | omega | (simp;omega))) only [go_sem,w64,ratsD,g1,g2,ratDV];try exact rfl));refine cok ?_) | (refine rgT ?_;intro K hK) | (refine dA ?_;intro K hK) | (with_reducible refine hK _ ?_;clear hK K) | (refine stq ?_;simp (disch:=(first | omega | (simp;omega))) only [go_sem,w64,ratsD,g1,g2,ratDV]) | refine as1 ?_ | fail)
    (first | refine callA (implMulA (qx a k) (qx b k)) ?_ | refine callD (implMulA (qx a k) (qx b k)) ?_ | refine callE (implMulA (qx a k) (qx b k)) ?_ | refine callF (implMulA (qx a k) (qx b k)) ?_ ?_)
    generalize mulQ (qx a k) (qx b k)=p at hs ⊢
    repeat' (first | refine sq ?_ | refine stp ?_ | refine blk_o (by decide) ?_ | (apply cb;(focus (simp (disch:=(first | omega | (simp;omega))) only [go_sem,w64,ratsD,tupQ,ratDV];try exact rfl));refine cok ?_) | (refine rgT ?_;intro K hK) | (refine dA ?_;intro K hK) | (with_reducible refine hK _ ?_;clear hK K) | (refine stq ?_;simp (disch:=(first | omega | (simp;omega))) only [go_sem,w64,ratsD,tupQ,ratDV]) | refine as1 ?_ | fail)
    (first | refine callA (implAddA x (rq p)) ?_ | refine callD (implAddA x (rq p)) ?_ | refine callE (implAddA x (rq p)) ?_ | refine callF (implAddA x (rq p)) ?_ ?_)
    generalize addQ x (rq p)=q at hs ⊢
    cases h1:p.2.2 with
    | false =>
     have hn:dotTo a b (k+1)=none:=by rw [hs,if_neg (by rw [h1];simp)]
     repeat' (first | refine sq ?_ | refine stp ?_ | refine blk_o (by decide) ?_ | (apply cb;(focus (simp (disch:=(first | omega | (simp;omega))) only [go_sem,w64,tupQ,ratDV,h1];try exact rfl));refine cok ?_) | (refine rgT ?_;intro K hK) | (refine dA ?_;intro K hK) | (with_reducible refine hK _ ?_;clear hK K) | (refine stq ?_;simp (disch:=(first | omega | (simp;omega))) only [go_sem,w64,tupQ,ratDV,h1]) | refine as1 ?_ | fail)
     (refine endA (r:=.tup [.d (.agg [.int 0,.int 0]),.d (.bool false)]) ?_)
     exact ⟨by rw [hf,dotTo_none hn _ (by omega)];rfl,rfl⟩
    | true =>
     cases h2:q.2.2 with
     | false =>
      have hn:dotTo a b (k+1)=none:=by rw [hs,if_neg (by rw [h2];simp)]
      repeat' (first | refine sq ?_ | refine stp ?_ | refine blk_o (by decide) ?_ | (apply cb;(focus (simp (disch:=(first | omega | (simp;omega))) only [go_sem,w64,tupQ,ratDV,h1,h2];try exact rfl));refine cok ?_) | (refine rgT ?_;intro K hK) | (refine dA ?_;intro K hK) | (with_reducible refine hK _ ?_;clear hK K) | (refine stq ?_;simp (disch:=(first | omega | (simp;omega))) only [go_sem,w64,tupQ,ratDV,h1,h2]) | refine as1 ?_ | fail)
      (refine endA (r:=.tup [.d (.agg [.int 0,.int 0]),.d (.bool false)]) ?_)
      exact ⟨by rw [hf,dotTo_none hn _ (by omega)];rfl,rfl⟩
     | true =>
      repeat' (first | refine sq ?_ | refine stp ?_ | refine blk_o (by decide) ?_ | (apply cb;(focus (simp (disch:=(first | omega | (simp;omega))) only [go_sem,w64,tupQ,ratDV,h1,h2];try exact rfl));refine cok ?_) | (refine rgT ?_;intro K hK) | (refine dA ?_;intro K hK) | (with_reducible refine hK _ ?_;clear hK K) | (refine stq ?_;simp (disch:=(first | omega | (simp;omega))) only [go_sem,w64,tupQ,ratDV,h1,h2]) | refine as1 ?_ | fail)
      refine ⟨a.length - (k+1),_,by omega,?_,k+1,rq q,rfl,by omega,by rw [hs,if_pos ⟨h1,h2⟩],rfl⟩
      (refine sle_mk ?_ ?_ <;> simp (disch:=(first | omega | (simp;omega))) only [go_sem,w64,ratsD] <;> exact leafs)
   ·obtain rfl:k=a.length:=by omega
    repeat' (first | refine sq ?_ | refine stp ?_ | refine blk_o (by decide) ?_ | (apply cb;(focus (simp (disch:=(first | omega | (simp;omega))) only [go_sem,w64];try exact rfl));refine cok ?_) | (refine rgT ?_;intro K hK) | (refine dA ?_;intro K hK) | (with_reducible refine hK _ ?_;clear hK K) | (refine stq ?_;simp (disch:=(first | omega | (simp;omega))) only [go_sem,w64]) | refine as1 ?_ | fail)
    (refine endA (r:=.tup [.d (.agg [.int x.num,.int x.den]),.d (.bool true)]) ?_)
    exact ⟨by rw [hf,hx];rfl,rfl⟩
 ·have z1:decide (((a.length:Nat):Int)=(b.length:Nat))=false:=decide_eq_false hl
  repeat' (first | refine sq ?_ | refine stp ?_ | refine blk_o (by decide) ?_ | (apply cb;(focus (simp (disch:=(first | omega | (simp;omega))) only [go_sem,w64,ratsD,z1];try exact rfl));refine cok ?_) | (refine rgT ?_;intro K hK) | (refine dA ?_;intro K hK) | (with_reducible refine hK _ ?_;clear hK K) | (refine stq ?_;simp (disch:=(first | omega | (simp;omega))) only [go_sem,w64,ratsD,z1]) | refine as1 ?_ | fail)
  (refine endA (r:=.tup [.d (.agg [.int 0,.int 0]),.d (.bool false)]) ?_)
  exact ⟨by unfold dotF;rw [if_neg (by omega)];rfl,rfl⟩
set_option maxHeartbeats 1000000 in
theorem specDotA (a b:List RatD) (ha:a.length≤1048576) (hb:b.length≤1048576):AFn 78 [.d (ratsD a),.d (ratsD b)] [] (fun r os=>r=ansQ (dotF a b)∧os=[]):=by
 refine afn_of (rv:=[.cell 4 33,.tmp 5]) tyT_ok Tryd.func78 rfl (by decide +kernel) Tryd.ntmps78 rfl (by simp) ?_
 by_cases hl:((a.length:Nat):Int)=(b.length:Nat)
 ·have z1:decide (((a.length:Nat):Int)=(b.length:Nat))=true:=decide_eq_true hl
  have hf:dotF a b=dotTo a b a.length:=if_pos (by omega)
  repeat' (first | refine sq ?_ | refine stp ?_ | refine blk_o (by decide) ?_ | (apply cb;(focus (simp (disch:=(first | omega | (simp;omega))) only [go_sem,w64,ratsD,z1];try exact rfl));refine cok ?_) | (refine rgT ?_;intro K hK) | (refine dA ?_;intro K hK) | (with_reducible refine hK _ ?_;clear hK K) | (refine stq ?_;simp (disch:=(first | omega | (simp;omega))) only [go_sem,w64,ratsD,z1]) | refine as1 ?_ | fail)
  refine awp_loopw (fun mm s=>∃ k x,mm=a.length - k∧k≤a.length∧dotTo a b k=some x∧s=mkS [(0,.d (ratsD a)),(1,.d (ratsD b)),(4,.ptr 4 0),(6,.ptr 6 0),(7,.d (.int (k:Nat)))] [(4,[.d (.int 0),.d (.int 0)]),(6,[.d (.int x.num),.d (.int x.den)])]) ?_ ?_
  ·refine ⟨_,_,?_,0,⟨0,1⟩,rfl,Nat.zero_le _,rfl,rfl⟩
   (refine sle_mk ?_ ?_ <;> simp (disch:=(first | omega | (simp;omega))) only [go_sem,w64,ratsD] <;> exact leafs)
  ·rintro mm s ⟨k,x,rfl,hk,hx,rfl⟩
   repeat' (first | refine sq ?_ | refine stp ?_ | refine blk_o (by decide) ?_ | (apply cb;(focus (simp (disch:=(first | omega | (simp;omega))) only [go_sem,w64,ratsD];try exact rfl));refine cok ?_) | (refine rgT ?_;intro K hK) | (refine dA ?_;intro K hK) | (with_reducible refine hK _ ?_;clear hK K) | (refine stq ?_;simp (disch:=(first | omega | (simp;omega))) only [go_sem,w64,ratsD]) | refine as1 ?_ | fail)
   refine awp_if (p:=(k:Int)<(a.length:Nat)) (by simp (disch:=(first | omega | (simp;omega))) only [go_sem,w64]) ?_ ?_ <;> intro hc
   ·have hk2:k<a.length:=by omega
    have hk3:k<b.length:=by omega
    have g1:(a.map ratDV).getD k (.bool false)=ratDV (qx a k):=getDq hk2
    have g2:(b.map ratDV).getD k (.bool false)=ratDV (qx b k):=getDq hk3
    have hs:dotTo a b (k+1)=if (mulQ (qx a k) (qx b k)).2.2=true∧(addQ x (rq (mulQ (qx a k) (qx b k)))).2.2=true then some (rq (addQ x (rq (mulQ (qx a k) (qx b k))))) else none:=by simp only [dotTo,hx]
    repeat' (first | refine sq ?_ | refine stp ?_ | refine blk_o (by decide) ?_ | (apply cb;(focus (simp (disch:=(first | omega | (simp;omega))) only [go_sem,w64,ratsD,g1,g2,ratDV];try exact rfl));refine cok ?_) | (refine rgT ?_;intro K hK) | (refine dA ?_;intro K hK) | (with_reducible refine hK _ ?_;clear hK K) | (refine stq ?_;simp (disch:=(first | omega | (simp;omega))) only [go_sem,w64,ratsD,g1,g2,ratDV]) | refine as1 ?_ | fail)
    (first | refine callA (specMulA (qx a k) (qx b k)) ?_ | refine callD (specMulA (qx a k) (qx b k)) ?_ | refine callE (specMulA (qx a k) (qx b k)) ?_ | refine callF (specMulA (qx a k) (qx b k)) ?_ ?_)
    generalize mulQ (qx a k) (qx b k)=p at hs ⊢
    cases h1:p.2.2 with
    | false =>
     have hn:dotTo a b (k+1)=none:=by rw [hs,if_neg (by rw [h1];simp)]
     repeat' (first | refine sq ?_ | refine stp ?_ | refine blk_o (by decide) ?_ | (apply cb;(focus (simp (disch:=(first | omega | (simp;omega))) only [go_sem,w64,tupQ,ratDV,h1];try exact rfl));refine cok ?_) | (refine rgT ?_;intro K hK) | (refine dA ?_;intro K hK) | (with_reducible refine hK _ ?_;clear hK K) | (refine stq ?_;simp (disch:=(first | omega | (simp;omega))) only [go_sem,w64,tupQ,ratDV,h1]) | refine as1 ?_ | fail)
     (refine endA (r:=.tup [.d (.agg [.int 0,.int 0]),.d (.bool false)]) ?_)
     exact ⟨by rw [hf,dotTo_none hn _ (by omega)];rfl,rfl⟩
    | true =>
     repeat' (first | refine sq ?_ | refine stp ?_ | refine blk_o (by decide) ?_ | (apply cb;(focus (simp (disch:=(first | omega | (simp;omega))) only [go_sem,w64,ratsD,tupQ,ratDV,h1];try exact rfl));refine cok ?_) | (refine rgT ?_;intro K hK) | (refine dA ?_;intro K hK) | (with_reducible refine hK _ ?_;clear hK K) | (refine stq ?_;simp (disch:=(first | omega | (simp;omega))) only [go_sem,w64,ratsD,tupQ,ratDV,h1]) | refine as1 ?_ | fail)
     (first | refine callA (specAddA x (rq p)) ?_ | refine callD (specAddA x (rq p)) ?_ | refine callE (specAddA x (rq p)) ?_ | refine callF (specAddA x (rq p)) ?_ ?_)
     generalize addQ x (rq p)=q at hs ⊢
     cases h2:q.2.2 with
     | false =>
      have hn:dotTo a b (k+1)=none:=by rw [hs,if_neg (by rw [h2];simp)]
      repeat' (first | refine sq ?_ | refine stp ?_ | refine blk_o (by decide) ?_ | (apply cb;(focus (simp (disch:=(first | omega | (simp;omega))) only [go_sem,w64,tupQ,ratDV,h1,h2];try exact rfl));refine cok ?_) | (refine rgT ?_;intro K hK) | (refine dA ?_;intro K hK) | (with_reducible refine hK _ ?_;clear hK K) | (refine stq ?_;simp (disch:=(first | omega | (simp;omega))) only [go_sem,w64,tupQ,ratDV,h1,h2]) | refine as1 ?_ | fail)
      (refine endA (r:=.tup [.d (.agg [.int 0,.int 0]),.d (.bool false)]) ?_)
      exact ⟨by rw [hf,dotTo_none hn _ (by omega)];rfl,rfl⟩
     | true =>
      repeat' (first | refine sq ?_ | refine stp ?_ | refine blk_o (by decide) ?_ | (apply cb;(focus (simp (disch:=(first | omega | (simp;omega))) only [go_sem,w64,tupQ,ratDV,h1,h2];try exact rfl));refine cok ?_) | (refine rgT ?_;intro K hK) | (refine dA ?_;intro K hK) | (with_reducible refine hK _ ?_;clear hK K) | (refine stq ?_;simp (disch:=(first | omega | (simp;omega))) only [go_sem,w64,tupQ,ratDV,h1,h2]) | refine as1 ?_ | fail)
      refine ⟨a.length - (k+1),_,by omega,?_,k+1,rq q,rfl,by omega,by rw [hs,if_pos ⟨h1,h2⟩],rfl⟩
      (refine sle_mk ?_ ?_ <;> simp (disch:=(first | omega | (simp;omega))) only [go_sem,w64,ratsD] <;> exact leafs)
   ·obtain rfl:k=a.length:=by omega
    repeat' (first | refine sq ?_ | refine stp ?_ | refine blk_o (by decide) ?_ | (apply cb;(focus (simp (disch:=(first | omega | (simp;omega))) only [go_sem,w64];try exact rfl));refine cok ?_) | (refine rgT ?_;intro K hK) | (refine dA ?_;intro K hK) | (with_reducible refine hK _ ?_;clear hK K) | (refine stq ?_;simp (disch:=(first | omega | (simp;omega))) only [go_sem,w64]) | refine as1 ?_ | fail)
    (refine endA (r:=.tup [.d (.agg [.int x.num,.int x.den]),.d (.bool true)]) ?_)
    exact ⟨by rw [hf,hx];rfl,rfl⟩
 ·have z1:decide (((a.length:Nat):Int)=(b.length:Nat))=false:=decide_eq_false hl
  repeat' (first | refine sq ?_ | refine stp ?_ | refine blk_o (by decide) ?_ | (apply cb;(focus (simp (disch:=(first | omega | (simp;omega))) only [go_sem,w64,ratsD,z1];try exact rfl));refine cok ?_) | (refine rgT ?_;intro K hK) | (refine dA ?_;intro K hK) | (with_reducible refine hK _ ?_;clear hK K) | (refine stq ?_;simp (disch:=(first | omega | (simp;omega))) only [go_sem,w64,ratsD,z1]) | refine as1 ?_ | fail)
  (refine endA (r:=.tup [.d (.agg [.int 0,.int 0]),.d (.bool false)]) ?_)
  exact ⟨by unfold dotF;rw [if_neg (by omega)];rfl,rfl⟩
def mvTo (M:List (List RatD)) (x:List RatD):Nat→Option (List RatD)
 | 0=>some []
 | k+1=>match mvTo M x k,dotF (mx M k) x with
  | some l,some y=>some (l ++ [y])
  | _,_=>none
theorem mvTo_none {M:List (List RatD)} {x:List RatD} {k:Nat} (h:mvTo M x k=none):∀ j,k≤j→mvTo M x j=none:=by
 intro j hj
 induction hj with
 | refl=>exact h
 | step _ ih=>simp only [mvTo,ih]
theorem mvTo_len {M:List (List RatD)} {x:List RatD}:∀ {k:Nat} {l:List RatD},mvTo M x k=some l→l.length=k
 | 0,l,h=>by simp only [mvTo,Option.some.injEq] at h;subst h;rfl
 | k+1,l,h=>by
  simp only [mvTo] at h
  split at h
  ·rename_i l0 y h1 h2
   cases h
   have:=mvTo_len h1
   simp [this]
  ·cases h
def mvF (M:List (List RatD)) (x:List RatD):Option (List RatD):=mvTo M x M.length
def ansL:Option (List RatD)→AV
 | some l=>.tup [.d (ratsD l),.d (.bool true)]
 | none=>.tup [.d (ratsD []),.d (.bool false)]
set_option maxHeartbeats 1000000 in
theorem implMvA (M:List (List RatD)) (x:List RatD) (hM:M.length≤1048576) (hr:∀ i,i<M.length→(mx M i).length≤1048576) (hx:x.length≤1048576):AFn 92 [.d (matD M),.d (ratsD x)] [] (fun r os=>r=ansL (mvF M x)∧os=[]):=by
 refine afn_of (rv:=[.tmp 4,.tmp 5]) tyT_ok Tryd.func92 rfl (by decide +kernel) Tryd.ntmps92 rfl (by simp) ?_
 repeat' (first | refine sq ?_ | refine stp ?_ | refine blk_o (by decide) ?_ | (apply cb;(focus (simp (disch:=(first | omega | (simp;omega))) only [go_sem,w64,matD];try exact rfl));refine cok ?_) | (refine rgT ?_;intro K hK) | (refine dA ?_;intro K hK) | (with_reducible refine hK _ ?_;clear hK K) | (refine stq ?_;simp (disch:=(first | omega | (simp;omega))) only [go_sem,w64,matD]) | refine as1 ?_ | fail)
 refine awp_nilbuf 6 6 33 2 (by simp (disch:=(first | omega | (simp;omega))) only [go_sem,w64]) ?_
 refine awp_loopw (fun mm s=>∃ k l,mm=M.length - k∧k≤M.length∧mvTo M x k=some l∧s=mkS [(1,.d (ratsD x)),(6,.buf 6 33 2 (l.map ratDV)),(11,.d (matD M)),(12,.d (.int (M.length:Nat))),(13,.d (.int (k:Nat)))] []) ?_ ?_
 ·refine ⟨_,_,?_,0,[],rfl,Nat.zero_le _,rfl,rfl⟩
  (refine sle_mk ?_ ?_ <;> simp (disch:=(first | omega | (simp;omega))) only [go_sem,w64,matD,List.map_nil] <;> exact leafs)
 ·rintro mm s ⟨k,l,rfl,hk,hl,rfl⟩
  have hll:=mvTo_len hl
  repeat' (first | refine sq ?_ | refine stp ?_ | refine blk_o (by decide) ?_ | (apply cb;(focus (simp (disch:=(first | omega | (simp;omega))) only [go_sem,w64,matD];try exact rfl));refine cok ?_) | (refine rgT ?_;intro K hK) | (refine dA ?_;intro K hK) | (with_reducible refine hK _ ?_;clear hK K) | (refine stq ?_;simp (disch:=(first | omega | (simp;omega))) only [go_sem,w64,matD]) | refine as1 ?_ | fail)
  refine awp_if (p:=(k:Int)<M.length) (by simp (disch:=(first | omega | (simp;omega))) only [go_sem,w64]) ?_ ?_ <;> intro hc
  ·have hk2:k<M.length:=by omega
   have g0:(M.map ratsD).getD k (.bool false)=ratsD (mx M k):=getDm hk2
   have hs:mvTo M x (k+1)=match dotF (mx M k) x with | some y=>some (l ++ [y]) | none=>none:=by
    simp only [mvTo,hl]
    cases dotF (mx M k) x <;> rfl
   repeat' (first | refine sq ?_ | refine stp ?_ | refine blk_o (by decide) ?_ | (apply cb;(focus (simp (disch:=(first | omega | (simp;omega))) only [go_sem,w64,matD,g0];try exact rfl));refine cok ?_) | (refine rgT ?_;intro K hK) | (refine dA ?_;intro K hK) | (with_reducible refine hK _ ?_;clear hK K) | (refine stq ?_;simp (disch:=(first | omega | (simp;omega))) only [go_sem,w64,matD,g0]) | refine as1 ?_ | fail)
   (first | refine callA (implDotA (mx M k) x (hr k hk2) hx) ?_ | refine callD (implDotA (mx M k) x (hr k hk2) hx) ?_ | refine callE (implDotA (mx M k) x (hr k hk2) hx) ?_ | refine callF (implDotA (mx M k) x (hr k hk2) hx) ?_ ?_)
   cases hd:dotF (mx M k) x with
   | none =>
    rw [hd] at hs
    repeat' (first | refine sq ?_ | refine stp ?_ | refine blk_o (by decide) ?_ | (apply cb;(focus (simp (disch:=(first | omega | (simp;omega))) only [go_sem,w64,ansQ,ratDV];try exact rfl));refine cok ?_) | (refine rgT ?_;intro K hK) | (refine dA ?_;intro K hK) | (with_reducible refine hK _ ?_;clear hK K) | (refine stq ?_;simp (disch:=(first | omega | (simp;omega))) only [go_sem,w64,ansQ,ratDV]) | refine as1 ?_ | fail)
    (refine endA (r:=.tup [.d (.sl 2 []),.d (.bool false)]) ?_)
    exact ⟨by unfold mvF;rw [mvTo_none hs _ (by omega)];rfl,rfl⟩
   | some y =>
    rw [hd] at hs
    have hb:l.length≤16777215:=by omega
    repeat' (first | refine sq ?_ | refine stp ?_ | refine blk_o (by decide) ?_ | (apply cb;(focus (simp (disch:=(first | omega | (simp;omega))) only [go_sem,w64,ansQ,ratDV];try exact rfl));refine cok ?_) | (refine rgT ?_;intro K hK) | (refine dA ?_;intro K hK) | (with_reducible refine hK _ ?_;clear hK K) | (refine stq ?_;simp (disch:=(first | omega | (simp;omega))) only [go_sem,w64,ansQ,ratDV]) | refine as1 ?_ | fail)
    refine ⟨M.length - (k+1),_,by omega,?_,k+1,l ++ [y],rfl,by omega,hs,rfl⟩
    (refine sle_mk ?_ ?_ <;> simp (disch:=(first | omega | (simp;omega))) only [go_sem,w64,matD,List.map_append,List.map_cons,List.map_nil,ratDV] <;> exact leafs)
  ·obtain rfl:k=M.length:=by omega
   repeat' (first | refine sq ?_ | refine stp ?_ | refine blk_o (by decide) ?_ | (apply cb;(focus (simp (disch:=(first | omega | (simp;omega))) only [go_sem,w64];try exact rfl));refine cok ?_) | (refine rgT ?_;intro K hK) | (refine dA ?_;intro K hK) | (with_reducible refine hK _ ?_;clear hK K) | (refine stq ?_;simp (disch:=(first | omega | (simp;omega))) only [go_sem,w64]) | refine as1 ?_ | fail)
   (refine endA (r:=.tup [.d (ratsD l),.d (.bool true)]) ?_)
   exact ⟨by unfold mvF;rw [hl];rfl,rfl⟩
set_option maxHeartbeats 1000000 in
theorem specMvA (M:List (List RatD)) (x:List RatD) (hM:M.length≤1048576) (hr:∀ i,i<M.length→(mx M i).length≤1048576) (hx:x.length≤1048576):AFn 67 [.d (matD M),.d (ratsD x)] [] (fun r os=>r=ansL (mvF M x)∧os=[]):=by
 refine afn_of (rv:=[.tmp 4,.tmp 5]) tyT_ok Tryd.func67 rfl (by decide +kernel) Tryd.ntmps67 rfl (by simp) ?_
 repeat' (first | refine sq ?_ | refine stp ?_ | refine blk_o (by decide) ?_ | (apply cb;(focus (simp (disch:=(first | omega | (simp;omega))) only [go_sem,w64,matD];try exact rfl));refine cok ?_) | (refine rgT ?_;intro K hK) | (refine dA ?_;intro K hK) | (with_reducible refine hK _ ?_;clear hK K) | (refine stq ?_;simp (disch:=(first | omega | (simp;omega))) only [go_sem,w64,matD]) | refine as1 ?_ | fail)
 refine awp_loopw (fun mm s=>∃ k l,mm=M.length - k∧k≤M.length∧mvTo M x k=some l∧s=mkS [(0,.d (matD M)),(1,.d (ratsD x)),(6,.buf 10 33 2 (l.map ratDV)),(7,.d (.int (k:Nat)))] []) ?_ ?_
 ·refine ⟨_,_,?_,0,[],rfl,Nat.zero_le _,rfl,rfl⟩
  (refine sle_mk ?_ ?_ <;> simp (disch:=(first | omega | (simp;omega))) only [go_sem,w64,matD,List.map_nil] <;> exact leafs)
 ·rintro mm s ⟨k,l,rfl,hk,hl,rfl⟩
  have hll:=mvTo_len hl
  repeat' (first | refine sq ?_ | refine stp ?_ | refine blk_o (by decide) ?_ | (apply cb;(focus (simp (disch:=(first | omega | (simp;omega))) only [go_sem,w64,matD];try exact rfl));refine cok ?_) | (refine rgT ?_;intro K hK) | (refine dA ?_;intro K hK) | (with_reducible refine hK _ ?_;clear hK K) | (refine stq ?_;simp (disch:=(first | omega | (simp;omega))) only [go_sem,w64,matD]) | refine as1 ?_ | fail)
  refine awp_if (p:=(k:Int)<M.length) (by simp (disch:=(first | omega | (simp;omega))) only [go_sem,w64]) ?_ ?_ <;> intro hc
  ·have hk2:k<M.length:=by omega
   have g0:(M.map ratsD).getD k (.bool false)=ratsD (mx M k):=getDm hk2
   have hs:mvTo M x (k+1)=match dotF (mx M k) x with | some y=>some (l ++ [y]) | none=>none:=by
    simp only [mvTo,hl]
    cases dotF (mx M k) x <;> rfl
   repeat' (first | refine sq ?_ | refine stp ?_ | refine blk_o (by decide) ?_ | (apply cb;(focus (simp (disch:=(first | omega | (simp;omega))) only [go_sem,w64,matD,g0];try exact rfl));refine cok ?_) | (refine rgT ?_;intro K hK) | (refine dA ?_;intro K hK) | (with_reducible refine hK _ ?_;clear hK K) | (refine stq ?_;simp (disch:=(first | omega | (simp;omega))) only [go_sem,w64,matD,g0]) | refine as1 ?_ | fail)
   (first | refine callA (specDotA (mx M k) x (hr k hk2) hx) ?_ | refine callD (specDotA (mx M k) x (hr k hk2) hx) ?_ | refine callE (specDotA (mx M k) x (hr k hk2) hx) ?_ | refine callF (specDotA (mx M k) x (hr k hk2) hx) ?_ ?_)
   cases hd:dotF (mx M k) x with
   | none =>
    rw [hd] at hs
    repeat' (first | refine sq ?_ | refine stp ?_ | refine blk_o (by decide) ?_ | (apply cb;(focus (simp (disch:=(first | omega | (simp;omega))) only [go_sem,w64,ansQ,ratDV];try exact rfl));refine cok ?_) | (refine rgT ?_;intro K hK) | (refine dA ?_;intro K hK) | (with_reducible refine hK _ ?_;clear hK K) | (refine stq ?_;simp (disch:=(first | omega | (simp;omega))) only [go_sem,w64,ansQ,ratDV]) | refine as1 ?_ | fail)
    (refine endA (r:=.tup [.d (.sl 2 []),.d (.bool false)]) ?_)
    exact ⟨by unfold mvF;rw [mvTo_none hs _ (by omega)];rfl,rfl⟩
   | some y =>
    rw [hd] at hs
    have hb:l.length≤16777215:=by omega
    repeat' (first | refine sq ?_ | refine stp ?_ | refine blk_o (by decide) ?_ | (apply cb;(focus (simp (disch:=(first | omega | (simp;omega))) only [go_sem,w64,ansQ,ratDV];try exact rfl));refine cok ?_) | (refine rgT ?_;intro K hK) | (refine dA ?_;intro K hK) | (with_reducible refine hK _ ?_;clear hK K) | (refine stq ?_;simp (disch:=(first | omega | (simp;omega))) only [go_sem,w64,ansQ,ratDV]) | refine as1 ?_ | fail)
    refine ⟨M.length - (k+1),_,by omega,?_,k+1,l ++ [y],rfl,by omega,hs,rfl⟩
    (refine sle_mk ?_ ?_ <;> simp (disch:=(first | omega | (simp;omega))) only [go_sem,w64,matD,List.map_append,List.map_cons,List.map_nil,ratDV] <;> exact leafs)
  ·obtain rfl:k=M.length:=by omega
   repeat' (first | refine sq ?_ | refine stp ?_ | refine blk_o (by decide) ?_ | (apply cb;(focus (simp (disch:=(first | omega | (simp;omega))) only [go_sem,w64];try exact rfl));refine cok ?_) | (refine rgT ?_;intro K hK) | (refine dA ?_;intro K hK) | (with_reducible refine hK _ ?_;clear hK K) | (refine stq ?_;simp (disch:=(first | omega | (simp;omega))) only [go_sem,w64]) | refine as1 ?_ | fail)
   (refine endA (r:=.tup [.d (ratsD l),.d (.bool true)]) ?_)
   exact ⟨by unfold mvF;rw [hl];rfl,rfl⟩
def sameQ (a b:RatD):Bool:=decide (a.num=b.num) && decide (a.den=b.den)
def eqQ (a b:List RatD):Bool:=decide (a.length=b.length) && (List.range a.length).all fun i=>sameQ (qx a i) (qx b i)
theorem eqQ_no {a b:List RatD} {i:Nat} (hi:i<a.length) (h:sameQ (qx a i) (qx b i)=false):eqQ a b=false:=by
 cases e:eqQ a b with
 | false=>rfl
 | true =>
  simp only [eqQ,Bool.and_eq_true] at e
  have:=List.all_eq_true.1 e.2 i (List.mem_range.2 hi)
  rw [h] at this;cases this
theorem eqQ_yes {a b:List RatD} (hl:a.length=b.length) (h:∀ i,i<a.length→sameQ (qx a i) (qx b i)=true):eqQ a b=true:=by
 simp only [eqQ,Bool.and_eq_true,decide_eq_true_eq]
 exact ⟨hl,List.all_eq_true.2 fun i hi=>h i (List.mem_range.1 hi)⟩
end Go.Proofs.YtkohkoiegmcghaaDoor
namespace Go.Proofs.YtkohkoiegmcghaaDoor
set_option linter.unusedSimpArgs false
set_option linter.unusedVariables false
attribute [local go_sem ↓] reduceIte
attribute [local go_sem] Nat.reduceEqDiff Nat.reduceLT Nat.reduceAdd Nat.reduceLeDiff Nat.reduceMul Nat.reduceBEq Nat.reduceSub reduceCtorEq Int.reduceLE Int.reduceNeg Int.reduceLT
open Go.RowKit
def cQ (l:List RatD):List AV:=(flatD (l.map ratDV)).map .d
theorem cQ_cons (x:RatD) (l:List RatD):cQ (x :: l)=.d (.int x.num) :: .d (.int x.den) :: cQ l:=by simp [cQ,flatD,ratDV,dcells]
theorem cQ_len (l:List RatD):(cQ l).length=l.length*2:=by
 induction l with
 | nil=>rfl
 | cons x l ih=>rw [cQ_cons];simp only [List.length_cons,ih];omega
theorem cQ_ld:∀ (l:List RatD) (k:Nat),k<l.length→((cQ l).drop (k*2)).take 2=[.d (.int (qx l k).num),.d (.int (qx l k).den)]
 | [],k,h=>by simp at h
 | x :: l,0,h=>by rw [cQ_cons];simp [qx]
 | x :: l,k+1,h=>by
  rw [cQ_cons,show (k+1)*2=k*2+1+1 by omega,List.drop_succ_cons,List.drop_succ_cons,cQ_ld l k (by simpa using h)]
  simp [qx]
theorem cQ_st:∀ (l:List RatD) (k:Nat) (x y:Int),k<l.length→List.take (k*2) (cQ l) ++ .d (.int x) :: .d (.int y) :: List.drop (k*2+2) (cQ l)=cQ (l.set k ⟨x,y⟩)
 | [],k,x,y,h=>by simp at h
 | z :: l,0,x,y,h=>by simp [cQ_cons]
 | z :: l,k+1,x,y,h=>by
  have ih:=cQ_st l k x y (by simpa using h)
  rw [cQ_cons,List.set_cons_succ,cQ_cons,show (k+1)*2=k*2+1+1 by omega,show k*2+1+1+2=k*2+2+1+1 by omega]
  simp only [List.take_succ_cons,List.drop_succ_cons,List.cons_append,ih]
theorem cQ_num (l:List RatD) (k:Nat) (h:k<l.length) (d:AV):(cQ l).getD (k*2) d=.d (.int (qx l k).num):=by
 have h1:=cQ_ld l k h
 have h2:k*2<(cQ l).length:=by rw [cQ_len];omega
 rw [List.drop_eq_getElem_cons h2] at h1
 simp only [List.take_succ_cons,List.cons.injEq] at h1
 simp [List.getD,h2,h1.1]
def elTo (f:RatD) (row piv:List RatD) (p:Nat):Nat→Option (List RatD)
 | 0=>some row
 | j+1=>match elTo f row piv p j with
  | none=>none
  | some r=>if (mulQ f (qx piv (p+j))).2.2=true∧(subQ (qx row (p+j)) (rq (mulQ f (qx piv (p+j))))).2.2=true then some (r.set (p+j) (rq (subQ (qx row (p+j)) (rq (mulQ f (qx piv (p+j))))))) else none
theorem elTo_none {f:RatD} {row piv:List RatD} {p k:Nat} (h:elTo f row piv p k=none):∀ j,k≤j→elTo f row piv p j=none:=by
 intro j hj
 induction hj with
 | refl=>exact h
 | step _ ih=>simp only [elTo,ih]
theorem qx_set {r:List RatD} {i j:Nat} {x:RatD} (h:i ≠ j):qx (r.set i x) j=qx r j:=by
 simp only [qx,List.getD,List.getElem?_set,if_neg h]
theorem elTo_out {f:RatD} {row piv:List RatD} {p:Nat}:∀ {j:Nat} {r:List RatD},elTo f row piv p j=some r→r.length=row.length∧∀ i,p+j≤i→qx r i=qx row i
 | 0,r,h=>by simp only [elTo,Option.some.injEq] at h;subst h;exact ⟨rfl,fun i _=>rfl⟩
 | j+1,r,h=>by
  simp only [elTo] at h
  split at h
  ·cases h
  ·rename_i r0 h0
   split at h
   ·cases h
    obtain ⟨h1,h2⟩:=elTo_out h0
    exact ⟨by rw [List.length_set];exact h1,fun i hi=>by rw [qx_set (by omega)];exact h2 i (by omega)⟩
   ·cases h
def elF (row piv:List RatD) (p:Nat):Option (List RatD):=if (divQ (qx row p) (qx piv p)).2.2=true then elTo (rq (divQ (qx row p) (qx piv p))) row piv p (row.length - p) else none
theorem end2 {ty:TypeId→Option TyI} {N:Nat} {s:AS} {rv:List ResultVar} {R:AV→List (List AV)→Prop} {e:Exit} (g:Nat) {xs:List AV} {r:AV} {l l':List AV} (he:e=.normal∨e=.ret) (hx:finA ty N s rv=some xs) (hob:s.ob 1000000=some l) (hob':s.ob 1000001=some l') (h:ALe (outA [1000000,1000001] g (retA xs)) r) (hR:R r [outAs [1000000,1000001] g l,outAs [1000000,1000001] g l']):EndA ty N 2 rv R e s :=
 ⟨he,[],g,xs,[outAs [1000000,1000001] g l,outAs [1000000,1000001] g l'],hx,by decide,by simp,by simp [lentN,obsOut,hob,hob',List.range_succ],r,by simpa [lentN,List.range_succ] using h,by simpa using hR⟩
theorem outAs_cQ (ns:List Nat) (g:Nat) (l:List RatD):outAs ns g (cQ l)=cQ l:=by unfold cQ;exact outAs_mapd ..
theorem entAs_cQ (l:List RatD):entAs (cQ l)=cQ l:=by unfold cQ;exact entAs_mapd ..
theorem cQ_scrubs (fb fo:Nat→Bool) (l:List RatD):scrubs fb fo (cQ l)=cQ l:=by unfold cQ;exact scrubs_mapd ..
theorem cQ_scrubm (fb fo:Nat→Bool) (l:List RatD):List.map (scrub fb fo) (cQ l)=cQ l:=by rw [← scrubs_map];exact cQ_scrubs fb fo l
theorem cQ_renAs (ns:List Nat) (d:Nat) (l:List RatD):renAs ns d (cQ l)=cQ l:=by unfold cQ;exact renAs_mapd ..
attribute [go_sem] cQ_scrubs cQ_scrubm cQ_renAs outAs_cQ entAs_cQ
set_option maxHeartbeats 2000000 in
theorem eliminateA (row piv:List RatD) (p:Nat) (hp:p<row.length) (hl:piv.length=row.length) (hr:row.length≤100):AFn 90 [.arr 0 2 row.length,.arr 1 2 piv.length,.d (.int p)] [cQ row,cQ piv] (fun r os=>∃ row',row'.length=row.length∧r=.d (.bool (elF row piv p).isSome)∧os=[cQ row',cQ piv]∧∀ x,elF row piv p=some x→row'=x):=by
 refine afn_of (rv:=[.tmp 6]) tyT_ok Tryd.func90 rfl (by decide +kernel) Tryd.ntmps90 rfl (by simp) ?_
 have hp2:p<piv.length:=by omega
 have n1:=cQ_len row
 have n2:=cQ_len piv
 have d1:=cQ_ld row p hp
 have d2:=cQ_ld piv p hp2
 refine awp_weak (s':=mkS [(0,.arr 1000000 2 row.length),(1,.arr 1000001 2 piv.length),(2,.d (.int (p:Nat)))] [(1000000,cQ row),(1000001,cQ piv)]) (by (refine sle_mk ?_ ?_ <;> simp (disch:=(first | omega | (simp;omega))) only [go_sem,w64,entAs_cQ] <;> exact leafs)) ?_
 repeat' (first | refine sq ?_ | refine stp ?_ | refine blk_o (by decide) ?_ | (apply cb;(focus (simp (disch:=(first | omega | (simp;omega))) only [go_sem,w64,d1,d2,n1,n2];try exact rfl));refine cok ?_) | (refine rgT ?_;intro K hK) | (refine dA ?_;intro K hK) | (with_reducible refine hK _ ?_;clear hK K) | (refine stq ?_;simp (disch:=(first | omega | (simp;omega))) only [go_sem,w64,d1,d2,n1,n2]) | refine as1 ?_ | fail)
 (first | refine callA (implDivA (qx row p) (qx piv p)) ?_ | refine callD (implDivA (qx row p) (qx piv p)) ?_ | refine callE (implDivA (qx row p) (qx piv p)) ?_ | refine callF (implDivA (qx row p) (qx piv p)) ?_ ?_)
 have hF:elF row piv p=if (divQ (qx row p) (qx piv p)).2.2=true then elTo (rq (divQ (qx row p) (qx piv p))) row piv p (row.length - p) else none:=rfl
 generalize divQ (qx row p) (qx piv p)=t at hF ⊢
 cases ht:t.2.2 with
 | false =>
  rw [if_neg (by rw [ht];decide)] at hF
  repeat' (first | refine sq ?_ | refine stp ?_ | refine blk_o (by decide) ?_ | (apply cb;(focus (simp (disch:=(first | omega | (simp;omega))) only [go_sem,w64,tupQ,ratDV,ht];try exact rfl));refine cok ?_) | (refine rgT ?_;intro K hK) | (refine dA ?_;intro K hK) | (with_reducible refine hK _ ?_;clear hK K) | (refine stq ?_;simp (disch:=(first | omega | (simp;omega))) only [go_sem,w64,tupQ,ratDV,ht]) | refine as1 ?_ | fail)
  refine end2 0 (.inr rfl) (by simp (disch:=(first | omega | (simp;omega))) only [go_sem,w64];rfl) (by simp (disch:=(first | omega | (simp;omega))) only [go_sem,w64];rfl) (by simp (disch:=(first | omega | (simp;omega))) only [go_sem,w64];rfl) (r:=.d (.bool false)) (by simp (disch:=(first | omega | (simp;omega))) only [go_sem,w64];exact .refl _) ⟨row,rfl,by rw [hF];rfl,by rw [outAs_cQ,outAs_cQ],fun x hx=>by rw [hF] at hx;cases hx⟩
 | true =>
  rw [if_pos ht] at hF
  generalize hf:rq t=f at hF
  repeat' (first | refine sq ?_ | refine stp ?_ | refine blk_o (by decide) ?_ | (apply cb;(focus (simp (disch:=(first | omega | (simp;omega))) only [go_sem,w64,tupQ,ratDV,ht,hf];try exact rfl));refine cok ?_) | (refine rgT ?_;intro K hK) | (refine dA ?_;intro K hK) | (with_reducible refine hK _ ?_;clear hK K) | (refine stq ?_;simp (disch:=(first | omega | (simp;omega))) only [go_sem,w64,tupQ,ratDV,ht,hf]) | refine as1 ?_ | fail)
  refine awp_loopw (fun mm s=>∃ (j:Nat) (r:List RatD),mm=row.length - p - j∧p+j≤row.length∧elTo f row piv p j=some r∧s=mkS [(0,.arr 1000000 2 row.length),(1,.arr 1000001 2 piv.length),(7,.ptr 7 0),(9,.d (.int ((p+j:Nat):Int)))] [(1000000,cQ r),(1000001,cQ piv),(7,[.d (.int f.num),.d (.int f.den)])]) ?_ ?_
  ·refine ⟨_,_,?_,0,row,rfl,by omega,rfl,rfl⟩
   exact sleA
  ·rintro mm s ⟨j,r,rfl,hj,hr0,rfl⟩
   obtain ⟨hrl,hre⟩:=elTo_out hr0
   repeat' (first | refine sq ?_ | refine stp ?_ | refine blk_o (by decide) ?_ | (apply cb;(focus (simp (disch:=(first | omega | (simp;omega))) only [go_sem,w64];try exact rfl));refine cok ?_) | (refine rgT ?_;intro K hK) | (refine dA ?_;intro K hK) | (with_reducible refine hK _ ?_;clear hK K) | (refine stq ?_;simp (disch:=(first | omega | (simp;omega))) only [go_sem,w64]) | refine as1 ?_ | fail)
   refine awp_if (p:=((p+j:Nat):Int)<(row.length:Nat)) (by simp (disch:=(first | omega | (simp;omega))) only [go_sem,w64]) ?_ ?_ <;> intro hc
   ·have hk1:p+j<r.length:=by omega
    have hk2:p+j<piv.length:=by omega
    have hs:elTo f row piv p (j+1)=if (mulQ f (qx piv (p+j))).2.2=true∧(subQ (qx row (p+j)) (rq (mulQ f (qx piv (p+j))))).2.2=true then some (r.set (p+j) (rq (subQ (qx row (p+j)) (rq (mulQ f (qx piv (p+j))))))) else none:=by simp only [elTo,hr0]
    have ek:=hre (p+j) (Nat.le_refl _)
    have e1:=cQ_ld r (p+j) hk1
    have e2:=cQ_ld piv (p+j) hk2
    have n3:=cQ_len r
    have st:=fun x y=>cQ_st r (p+j) x y hk1
    have hfin:elTo f row piv p (j+1)=none→elF row piv p=none:=fun h=>by rw [hF];exact elTo_none h _ (by omega)
    rw [ek] at e1
    have hkw:p+j+1=p+(j+1):=rfl
    generalize hkk:p+j=k at *
    repeat' (first | refine sq ?_ | refine stp ?_ | refine blk_o (by decide) ?_ | (apply cb;(focus (simp (disch:=(first | omega | (simp;omega))) only [go_sem,w64,e2,n2];try exact rfl));refine cok ?_) | (refine rgT ?_;intro K hK) | (refine dA ?_;intro K hK) | (with_reducible refine hK _ ?_;clear hK K) | (refine stq ?_;simp (disch:=(first | omega | (simp;omega))) only [go_sem,w64,e2,n2]) | refine as1 ?_ | fail)
    (first | refine callA (implMulA f (qx piv k)) ?_ | refine callD (implMulA f (qx piv k)) ?_ | refine callE (implMulA f (qx piv k)) ?_ | refine callF (implMulA f (qx piv k)) ?_ ?_)
    generalize mulQ f (qx piv k)=x at hs ⊢
    repeat' (first | refine sq ?_ | refine stp ?_ | refine blk_o (by decide) ?_ | (apply cb;(focus (simp (disch:=(first | omega | (simp;omega))) only [go_sem,w64,tupQ,ratDV,e1,n3];try exact rfl));refine cok ?_) | (refine rgT ?_;intro K hK) | (refine dA ?_;intro K hK) | (with_reducible refine hK _ ?_;clear hK K) | (refine stq ?_;simp (disch:=(first | omega | (simp;omega))) only [go_sem,w64,tupQ,ratDV,e1,n3]) | refine as1 ?_ | fail)
    (first | refine callA (implSubA (qx row k) (rq x)) ?_ | refine callD (implSubA (qx row k) (rq x)) ?_ | refine callE (implSubA (qx row k) (rq x)) ?_ | refine callF (implSubA (qx row k) (rq x)) ?_ ?_)
    generalize subQ (qx row k) (rq x)=y at hs ⊢
    cases h1:x.2.2 with
    | false =>
     have hn:=hfin (by rw [hs,if_neg (by rw [h1];simp)])
     repeat' (first | refine sq ?_ | refine stp ?_ | refine blk_o (by decide) ?_ | (apply cb;(focus (simp (disch:=(first | omega | (simp;omega))) only [go_sem,w64,tupQ,ratDV,h1];try exact rfl));refine cok ?_) | (refine rgT ?_;intro K hK) | (refine dA ?_;intro K hK) | (with_reducible refine hK _ ?_;clear hK K) | (refine stq ?_;simp (disch:=(first | omega | (simp;omega))) only [go_sem,w64,tupQ,ratDV,h1]) | refine as1 ?_ | fail)
     refine end2 0 (.inr rfl) (by simp (disch:=(first | omega | (simp;omega))) only [go_sem,w64];rfl) (by simp (disch:=(first | omega | (simp;omega))) only [go_sem,w64];rfl) (by simp (disch:=(first | omega | (simp;omega))) only [go_sem,w64];rfl) (r:=.d (.bool false)) (by simp (disch:=(first | omega | (simp;omega))) only [go_sem,w64];exact .refl _) ⟨r,hrl,by rw [hn];rfl,by rw [outAs_cQ,outAs_cQ],fun x hx=>by rw [hn] at hx;cases hx⟩
    | true =>
     cases h2:y.2.2 with
     | false =>
      have hn:=hfin (by rw [hs,if_neg (by rw [h2];simp)])
      repeat' (first | refine sq ?_ | refine stp ?_ | refine blk_o (by decide) ?_ | (apply cb;(focus (simp (disch:=(first | omega | (simp;omega))) only [go_sem,w64,tupQ,ratDV,h1,h2];try exact rfl));refine cok ?_) | (refine rgT ?_;intro K hK) | (refine dA ?_;intro K hK) | (with_reducible refine hK _ ?_;clear hK K) | (refine stq ?_;simp (disch:=(first | omega | (simp;omega))) only [go_sem,w64,tupQ,ratDV,h1,h2]) | refine as1 ?_ | fail)
      refine end2 0 (.inr rfl) (by simp (disch:=(first | omega | (simp;omega))) only [go_sem,w64];rfl) (by simp (disch:=(first | omega | (simp;omega))) only [go_sem,w64];rfl) (by simp (disch:=(first | omega | (simp;omega))) only [go_sem,w64];rfl) (r:=.d (.bool false)) (by simp (disch:=(first | omega | (simp;omega))) only [go_sem,w64];exact .refl _) ⟨r,hrl,by rw [hn];rfl,by rw [outAs_cQ,outAs_cQ],fun x hx=>by rw [hn] at hx;cases hx⟩
     | true =>
      rw [if_pos ⟨h1,h2⟩] at hs
      repeat' (first | refine sq ?_ | refine stp ?_ | refine blk_o (by decide) ?_ | (apply cb;(focus (simp (disch:=(first | omega | (simp;omega))) only [go_sem,w64,tupQ,ratDV,h1,h2,n3,st];try exact rfl));refine cok ?_) | (refine rgT ?_;intro K hK) | (refine dA ?_;intro K hK) | (with_reducible refine hK _ ?_;clear hK K) | (refine stq ?_;simp (disch:=(first | omega | (simp;omega))) only [go_sem,w64,tupQ,ratDV,h1,h2,n3,st]) | refine as1 ?_ | fail)
      refine ⟨row.length - p - (j+1),_,by omega,?_,j+1,_,rfl,by omega,hs,rfl⟩
      (refine sle_mk ?_ ?_ <;> simp (disch:=(first | omega | (simp;omega))) only [go_sem,w64,hkw] <;> exact leafs)
   ·have hj2:j=row.length - p:=by omega
    subst hj2
    repeat' (first | refine sq ?_ | refine stp ?_ | refine blk_o (by decide) ?_ | (apply cb;(focus (simp (disch:=(first | omega | (simp;omega))) only [go_sem,w64];try exact rfl));refine cok ?_) | (refine rgT ?_;intro K hK) | (refine dA ?_;intro K hK) | (with_reducible refine hK _ ?_;clear hK K) | (refine stq ?_;simp (disch:=(first | omega | (simp;omega))) only [go_sem,w64]) | refine as1 ?_ | fail)
    rw [hr0] at hF
    refine end2 0 (.inr rfl) (by simp (disch:=(first | omega | (simp;omega))) only [go_sem,w64];rfl) (by simp (disch:=(first | omega | (simp;omega))) only [go_sem,w64];rfl) (by simp (disch:=(first | omega | (simp;omega))) only [go_sem,w64];rfl) (r:=.d (.bool true)) (by simp (disch:=(first | omega | (simp;omega))) only [go_sem,w64];exact .refl _) ⟨r,hrl,by rw [hF];rfl,by rw [outAs_cQ,outAs_cQ],fun x hx=>by rw [hF] at hx;exact Option.some.inj hx⟩
theorem nm_ex (i:Nat):∃ o:Nat,o=i+1000001:=⟨_,rfl⟩
noncomputable def nm (i:Nat):Nat:=Classical.choose (nm_ex i)
theorem nm_eq (i:Nat):nm i=i+1000001:=Classical.choose_spec (nm_ex i)
theorem nm_ne {i o:Nat} (h:o≤1000000):(nm i=o)=False:=by rw [nm_eq];exact eq_false (by omega)
theorem ne_nm {i o:Nat} (h:o≤1000000):(o=nm i)=False:=by rw [nm_eq];exact eq_false (by omega)
theorem nm_inj {i j:Nat}:(nm i=nm j)=(i=j):=by rw [nm_eq,nm_eq];exact propext ⟨fun h=>by omega,fun h=>by omega⟩
theorem nm_beq {i o:Nat} (h:o≤1000000):(nm i == o)=false:=by rw [beq_eq_false_iff_ne,nm_eq];omega
noncomputable def mC (n N:Nat):List AV:=(List.range n).map fun i=>.arr (nm i) 2 N
theorem mC_len (n N:Nat):(mC n N).length=n:=by simp [mC]
theorem mC_getD {n N i:Nat} (h:i<n) (d:AV):(mC n N).getD i d=.arr (nm i) 2 N:=by simp [mC,List.getD,h]
theorem mC_scrubm {fb fo:Nat→Bool} (n N:Nat) (h:∀ i,fo (nm i)=true):List.map (scrub fb fo) (mC n N)=mC n N:=by
 unfold mC
 rw [List.map_map]
 apply List.map_congr_left
 intro i _
 simp only [Function.comp_apply,scrub]
 rw [if_pos (h i)]
theorem mC_scrubs {fb fo:Nat→Bool} (n N:Nat) (h:∀ i,fo (nm i)=true):scrubs fb fo (mC n N)=mC n N:=by rw [scrubs_map];exact mC_scrubm n N h
theorem mC_sm {fb:Nat→Bool} {d:Nat} (n N:Nat) (h:d≤1000000):List.map (scrub fb (fun o=>!(o == d))) (mC n N)=mC n N:=mC_scrubm n N (fun i=>by rw [nm_beq h];rfl)
theorem mC_ss {fb:Nat→Bool} {d:Nat} (n N:Nat) (h:d≤1000000):scrubs fb (fun o=>!(o == d)) (mC n N)=mC n N:=mC_scrubs n N (fun i=>by rw [nm_beq h];rfl)
def mkF0 (tl:List (Nat×AV)) (ol:List (Nat×List AV)) (mc:List AV) (rows:List (List RatD)):AS :=
 ⟨lkT tl,fun o=>if o=1000000 then some mc else if 1000001≤o then (if o - 1000001<rows.length then some (cQ (mx rows (o - 1000001))) else none) else lkO ol o⟩
theorem mkF_ex (tl:List (Nat×AV)) (ol:List (Nat×List AV)) (mc:List AV) (rows:List (List RatD)):∃ s:AS,s=mkF0 tl ol mc rows:=⟨_,rfl⟩
noncomputable def mkF (tl:List (Nat×AV)) (ol:List (Nat×List AV)) (mc:List AV) (rows:List (List RatD)):AS:=Classical.choose (mkF_ex tl ol mc rows)
theorem mkF_eq (tl:List (Nat×AV)) (ol:List (Nat×List AV)) (mc:List AV) (rows:List (List RatD)):mkF tl ol mc rows=mkF0 tl ol mc rows:=Classical.choose_spec (mkF_ex tl ol mc rows)
section
variable {tl:List (Nat×AV)} {ol:List (Nat×List AV)} {mc:List AV} {rows:List (List RatD)}
theorem mkF_tm (tl:List (Nat×AV)) (ol:List (Nat×List AV)) (mc:List AV) (rows:List (List RatD)) (t:Nat):(mkF tl ol mc rows).tm t=lkT tl t:=by rw [mkF_eq];rfl
theorem mkF_ob0 (tl:List (Nat×AV)) (ol:List (Nat×List AV)) (mc:List AV) (rows:List (List RatD)):(mkF tl ol mc rows).ob 1000000=some mc:=by rw [mkF_eq];rfl
theorem mkF_obr {i:Nat} (h:i<rows.length):(mkF tl ol mc rows).ob (nm i)=some (cQ (mx rows i)):=by
 rw [mkF_eq,nm_eq]
 simp only [mkF0]
 rw [if_neg (by omega),if_pos (by omega),Nat.add_sub_cancel,if_pos h]
theorem mkF_obl {o:Nat} (h:o<1000000):(mkF tl ol mc rows).ob o=lkO ol o:=by
 rw [mkF_eq]
 simp only [mkF0]
 rw [if_neg (by omega),if_neg (by omega)]
end
attribute [go_sem] mkF_tm mkF_ob0 mkF_obr mkF_obl mC_sm mC_ss mC_getD mC_len nm_ne ne_nm nm_inj nm_beq
end Go.Proofs.YtkohkoiegmcghaaDoor
namespace Go.Proofs.YtkohkoiegmcghaaDoor
set_option linter.unusedSimpArgs false
set_option linter.unusedVariables false
attribute [local go_sem ↓] reduceIte
attribute [local go_sem] Nat.reduceEqDiff Nat.reduceLT Nat.reduceAdd Nat.reduceLeDiff Nat.reduceMul Nat.reduceBEq Nat.reduceSub reduceCtorEq Int.reduceLE Int.reduceNeg Int.reduceLT
open Go.RowKit
def stTo (rows:List (List RatD)) (p:Nat):Nat→Option (List (List RatD))
 | 0=>some rows
 | i+1=>match stTo rows p i with
  | none=>none
  | some R=>if i=p∨(qx (mx R i) p).num=0 then some R else match elF (mx R i) (mx R p) p with
   | some r=>some (R.set i r)
   | none=>none
theorem stTo_none {rows:List (List RatD)} {p k:Nat} (h:stTo rows p k=none):∀ j,k≤j→stTo rows p j=none:=by
 intro j hj
 induction hj with
 | refl=>exact h
 | step _ ih=>simp only [stTo,ih]
def stF (rows:List (List RatD)) (p:Nat):Option (List (List RatD)):=stTo rows p rows.length
def Shp (n N:Nat) (R:List (List RatD)):Prop:=R.length=n∧∀ i,i<n→(mx R i).length=N
theorem mx_set {R:List (List RatD)} {i j:Nat} {r:List RatD} (h:i<R.length):mx (R.set i r) j=if j=i then r else mx R j:=by
 simp only [mx,List.getD,List.getElem?_set]
 by_cases e:i=j
 ·subst e;simp [h]
 ·rw [if_neg e,if_neg (fun h=>e h.symm)]
theorem Shp.set {n N:Nat} {R:List (List RatD)} (h:Shp n N R) {i:Nat} {r:List RatD} (hi:i<n) (hr:r.length=N):Shp n N (R.set i r):=by
 refine ⟨by rw [List.length_set];exact h.1,fun j hj=>?_⟩
 rw [mx_set (by rw [h.1];exact hi)]
 split
 ·exact hr
 ·exact h.2 j hj
end Go.Proofs.YtkohkoiegmcghaaDoor
