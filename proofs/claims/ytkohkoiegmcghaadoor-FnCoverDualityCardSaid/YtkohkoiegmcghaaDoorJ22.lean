/- Lemmas for the proof of FnCoverDuality, part 22 of 26: no condition of their own. -/
import Derived.Test.YtkohkoiegmcghaaDoorJ19
import Derived.Test.YtkohkoiegmcghaaDoorJ21
namespace Go.Proofs.YtkohkoiegmcghaaDoor
set_option linter.unusedSimpArgs false
set_option linter.unusedVariables false
attribute [local go_sem ↓] reduceIte
attribute [local go_sem] Nat.reduceEqDiff Nat.reduceLT Nat.reduceAdd Nat.reduceLeDiff Nat.reduceMul Nat.reduceBEq Nat.reduceSub reduceCtorEq Int.reduceLE Int.reduceNeg Int.reduceLT
open Go.RowKit
def adm1 (x:RatD):Bool:=vR x && (decide (0≤x.num∧x.num≤1000) && decide (x.den≤1000))
theorem admB_no {l:List RatD} {i:Nat} (hi:i<l.length) (h:adm1 (qx l i)=false):admB l=false:=by
 cases e:admB l with
 | false=>rfl
 | true =>
  have:=List.all_eq_true.1 e _ (mem_qx hi)
  have h2:adm1 (qx l i)=true:=this
  rw [h] at h2;cases h2
theorem admB_yes {l:List RatD} (h:∀ i,i<l.length→adm1 (qx l i)=true):admB l=true:=List.all_eq_true.2 fun x hx=>by
 obtain ⟨i,hi,e⟩:=List.getElem_of_mem hx
 have:=h i hi
 have e2:qx l i=x:=by simp [qx,List.getD,hi,e]
 rw [e2] at this;exact this
theorem sumTo_none {l:List RatD} {k:Nat} (h:sumTo l k=none):∀ j,k≤j→sumTo l j=none
 | 0,hj=>by
  obtain rfl:k=0:=by omega
  exact h
 | j+1,hj=>by
  by_cases e:k=j+1
  ·subst e;exact h
  ·simp only [sumTo,sumTo_none h j (by omega)]
noncomputable def occP (xs:List AtomD) (v i:Nat):Bool:=occ (ax xs i).vs v
noncomputable def covF (nv:Int) (xs:List AtomD) (us:List Int) (w:List RatD):Bool:=qOK nv xs us && ((admB w && decide (w.length=xs.length)) && covB nv.toNat xs.length (occP xs) w)
noncomputable def pakF (nv:Int) (xs:List AtomD) (us:List Int) (y:List RatD):Bool:=qOK nv xs us && ((admB y && decide ((y.length:Int)=nv)) && pakB nv.toNat xs.length (occP xs) y)
set_option maxHeartbeats 1000000 in
theorem specSumA (l:List RatD) (hl:l.length≤1048576):AFn 18 [.d (ratsD l)] [] (fun r os=>r=ansQ (sumF l)∧os=[]):=by
 refine afn_of (rv:=[.cell 2 33,.tmp 3]) tyT_ok Tryd.func18 rfl (by decide +kernel) Tryd.ntmps18 rfl (by simp) ?_
 have hlm:(l.map ratDV).length=l.length:=List.length_map ..
 repeat' (first | refine sq ?_ | refine stp ?_ | refine blk_o (by decide) ?_ | (apply cb;(focus (simp (disch:=(first | omega | (simp;omega))) only [go_sem,w64,ratsD,hlm];try exact rfl));refine cok ?_) | (refine rgT ?_;intro K hK) | (refine dA ?_;intro K hK) | (with_reducible refine hK _ ?_;clear hK K) | (refine stq ?_;simp (disch:=(first | omega | (simp;omega))) only [go_sem,w64,ratsD,hlm]) | refine as1 ?_ | fail)
 refine awp_loopw (fun mm s=>∃ k x,mm=l.length - k∧k≤l.length∧sumTo l k=some x∧s=mkS [(0,.d (ratsD l)),(2,.ptr 2 0),(4,.ptr 4 0),(5,.d (.int (k:Nat)))] [(2,[.d (.int 0),.d (.int 0)]),(4,[.d (.int x.num),.d (.int x.den)])]) ?_ ?_
 ·refine ⟨_,_,?_,0,⟨0,1⟩,rfl,Nat.zero_le _,rfl,rfl⟩
  (refine sle_mk ?_ ?_ <;> simp (disch:=(first | omega | (simp;omega))) only [go_sem,w64,ratsD] <;> exact leafs)
 ·rintro mm s ⟨k,x,rfl,hk,hx,rfl⟩
  repeat' (first | refine sq ?_ | refine stp ?_ | refine blk_o (by decide) ?_ | (apply cb;(focus (simp (disch:=(first | omega | (simp;omega))) only [go_sem,w64,ratsD,hlm];try exact rfl));refine cok ?_) | (refine rgT ?_;intro K hK) | (refine dA ?_;intro K hK) | (with_reducible refine hK _ ?_;clear hK K) | (refine stq ?_;simp (disch:=(first | omega | (simp;omega))) only [go_sem,w64,ratsD,hlm]) | refine as1 ?_ | fail)
  refine awp_if (p:=(k:Int)<(l.length:Nat)) (by simp (disch:=(first | omega | (simp;omega))) only [go_sem,w64,ratsD,hlm]) ?_ ?_ <;> intro hc
  ·have hk2:k<l.length:=by omega
   have g1:(l.map ratDV).getD k (.bool false)=ratDV (qx l k):=getDq hk2
   have w1:IntKind.i64.wrap ((k:Int)+1)=((k+1:Nat):Int):=by rw [w64 (by omega)];rfl
   have hs:sumTo l (k+1)=if (addQ x (qx l k)).2.2=true then some (rq (addQ x (qx l k))) else none:=by simp only [sumTo,hx]
   repeat' (first | refine sq ?_ | refine stp ?_ | refine blk_o (by decide) ?_ | (apply cb;(focus (simp (disch:=(first | omega | (simp;omega))) only [go_sem,w64,ratsD,g1,ratDV,hlm];try exact rfl));refine cok ?_) | (refine rgT ?_;intro K hK) | (refine dA ?_;intro K hK) | (with_reducible refine hK _ ?_;clear hK K) | (refine stq ?_;simp (disch:=(first | omega | (simp;omega))) only [go_sem,w64,ratsD,g1,ratDV,hlm]) | refine as1 ?_ | fail)
   (first | refine callA (specAddA x (qx l k)) ?_ | refine callD (specAddA x (qx l k)) ?_ | refine callE (specAddA x (qx l k)) ?_ | refine callF (specAddA x (qx l k)) ?_ ?_)
   generalize addQ x (qx l k)=q at hs ⊢
   cases h2:q.2.2 with
   | false =>
    have hn:sumTo l (k+1)=none:=by rw [hs,if_neg (by rw [h2];simp)]
    repeat' (first | refine sq ?_ | refine stp ?_ | refine blk_o (by decide) ?_ | (apply cb;(focus (simp (disch:=(first | omega | (simp;omega))) only [go_sem,w64,tupQ,ratDV,h2];try exact rfl));refine cok ?_) | (refine rgT ?_;intro K hK) | (refine dA ?_;intro K hK) | (with_reducible refine hK _ ?_;clear hK K) | (refine stq ?_;simp (disch:=(first | omega | (simp;omega))) only [go_sem,w64,tupQ,ratDV,h2]) | refine as1 ?_ | fail)
    (refine endA (r:=.tup [.d (.agg [.int 0,.int 0]),.d (.bool false)]) ?_)
    exact ⟨by unfold sumF;rw [sumTo_none hn _ (by omega)];rfl,rfl⟩
   | true =>
    repeat' (first | refine sq ?_ | refine stp ?_ | refine blk_o (by decide) ?_ | (apply cb;(focus (simp (disch:=(first | omega | (simp;omega))) only [go_sem,w64,tupQ,ratDV,h2,w1];try exact rfl));refine cok ?_) | (refine rgT ?_;intro K hK) | (refine dA ?_;intro K hK) | (with_reducible refine hK _ ?_;clear hK K) | (refine stq ?_;simp (disch:=(first | omega | (simp;omega))) only [go_sem,w64,tupQ,ratDV,h2,w1]) | refine as1 ?_ | fail)
    refine ⟨l.length - (k+1),_,by omega,?_,k+1,rq q,rfl,by omega,by rw [hs,if_pos h2],rfl⟩
    (refine sle_mk ?_ ?_ <;> simp (disch:=(first | omega | (simp;omega))) only [go_sem,w64,ratsD] <;> exact leafs)
  ·obtain rfl:k=l.length:=by omega
   repeat' (first | refine sq ?_ | refine stp ?_ | refine blk_o (by decide) ?_ | (apply cb;(focus (simp (disch:=(first | omega | (simp;omega))) only [go_sem,w64];try exact rfl));refine cok ?_) | (refine rgT ?_;intro K hK) | (refine dA ?_;intro K hK) | (with_reducible refine hK _ ?_;clear hK K) | (refine stq ?_;simp (disch:=(first | omega | (simp;omega))) only [go_sem,w64]) | refine as1 ?_ | fail)
   (refine endA (r:=.tup [.d (.agg [.int x.num,.int x.den]),.d (.bool true)]) ?_)
   exact ⟨by unfold sumF;rw [hx];rfl,rfl⟩
set_option maxHeartbeats 1000000 in
theorem l12SmallA (l:List RatD) (n:Int) (hl:l.length≤1048576):AFn 31 [.d (ratsD l),.d (.int n)] [] (fun r os=>r=.d (.bool (admB l && decide ((l.length:Int)=n)))∧os=[]):=by
 refine afn_of (rv:=[.tmp 4]) tyT_ok Tryd.func31 rfl (by decide +kernel) Tryd.ntmps31 rfl (by simp) ?_
 have hlm:(l.map ratDV).length=l.length:=List.length_map ..
 repeat' (first | refine sq ?_ | refine stp ?_ | refine blk_o (by decide) ?_ | (apply cb;(focus (simp (disch:=(first | omega | (simp;omega))) only [go_sem,w64,ratsD,hlm];try exact rfl));refine cok ?_) | (refine rgT ?_;intro K hK) | (refine dA ?_;intro K hK) | (with_reducible refine hK _ ?_;clear hK K) | (refine stq ?_;simp (disch:=(first | omega | (simp;omega))) only [go_sem,w64,ratsD,hlm]) | refine as1 ?_ | fail)
 refine awp_loopw (fun mm s=>∃ k,mm=l.length - k∧k≤l.length∧(∀ i,i<k→adm1 (qx l i)=true)∧s=mkS [(0,.d (ratsD l)),(1,.d (.int n)),(5,.d (.int (k:Nat)))] []) ?_ ?_
 ·refine ⟨_,_,?_,0,rfl,Nat.zero_le _,fun i hi=>absurd hi (Nat.not_lt_zero _),rfl⟩
  (refine sle_mk ?_ ?_ <;> simp (disch:=(first | omega | (simp;omega))) only [go_sem,w64,ratsD] <;> exact leafs)
 ·rintro mm s ⟨k,rfl,hk,hA,rfl⟩
  repeat' (first | refine sq ?_ | refine stp ?_ | refine blk_o (by decide) ?_ | (apply cb;(focus (simp (disch:=(first | omega | (simp;omega))) only [go_sem,w64,ratsD,hlm];try exact rfl));refine cok ?_) | (refine rgT ?_;intro K hK) | (refine dA ?_;intro K hK) | (with_reducible refine hK _ ?_;clear hK K) | (refine stq ?_;simp (disch:=(first | omega | (simp;omega))) only [go_sem,w64,ratsD,hlm]) | refine as1 ?_ | fail)
  refine awp_if (p:=(k:Int)<(l.length:Nat)) (by simp (disch:=(first | omega | (simp;omega))) only [go_sem,w64,ratsD,hlm]) ?_ ?_ <;> intro hc
  ·have hk2:k<l.length:=by omega
   have g1:(l.map ratDV).getD k (.bool false)=ratDV (qx l k):=getDq hk2
   have w1:IntKind.i64.wrap ((k:Int)+1)=((k+1:Nat):Int):=by rw [w64 (by omega)];rfl
   have hno:=admB_no hk2
   have hA':adm1 (qx l k)=true→∀ i,i<k+1→adm1 (qx l i)=true:=fun h i hi=>by
    by_cases e:i=k
    ·subst e;exact h
    ·exact hA i (by omega)
   have hv:=specValidRA (qx l k)
   repeat' (first | refine sq ?_ | refine stp ?_ | refine blk_o (by decide) ?_ | (apply cb;(focus (simp (disch:=(first | omega | (simp;omega))) only [go_sem,w64,ratsD,ratDV,g1,hlm];try exact rfl));refine cok ?_) | (refine rgT ?_;intro K hK) | (refine dA ?_;intro K hK) | (with_reducible refine hK _ ?_;clear hK K) | (refine stq ?_;simp (disch:=(first | omega | (simp;omega))) only [go_sem,w64,ratsD,ratDV,g1,hlm]) | refine as1 ?_ | fail)
   (first | refine callA (hv) ?_ | refine callD (hv) ?_ | refine callE (hv) ?_ | refine callF (hv) ?_ ?_)
   generalize hq:qx l k=x at *
   have had:adm1 x=(vR x && (decide (0≤x.num∧x.num≤1000) && decide (x.den≤1000))):=rfl
   cases hvx:vR x with
   | false =>
    have hn:=hno (by rw [had,hvx];rfl)
    repeat' (first | refine sq ?_ | refine stp ?_ | refine blk_o (by decide) ?_ | (apply cb;(focus (simp (disch:=(first | omega | (simp;omega))) only [go_sem,w64,ratsD,ratDV,g1,hlm];try exact rfl));refine cok ?_) | (refine rgT ?_;intro K hK) | (refine dA ?_;intro K hK) | (with_reducible refine hK _ ?_;clear hK K) | (refine stq ?_;simp (disch:=(first | omega | (simp;omega))) only [go_sem,w64,ratsD,ratDV,g1,hlm]) | refine as1 ?_ | fail)
    (refine endA (r:=.d (.bool false)) ?_)
    exact ⟨by rw [hn];rfl,rfl⟩
   | true =>
    by_cases c1:x.num<0
    ·have hn:=hno (by rw [had,hvx,decide_eq_false (show ¬ (0≤x.num∧x.num≤1000) by omega)];rfl)
     have z1:decide (x.num<0)=true:=decide_eq_true c1
     repeat' (first | refine sq ?_ | refine stp ?_ | refine blk_o (by decide) ?_ | (apply cb;(focus (simp (disch:=(first | omega | (simp;omega))) only [go_sem,w64,ratsD,ratDV,g1,hlm,z1];try exact rfl));refine cok ?_) | (refine rgT ?_;intro K hK) | (refine dA ?_;intro K hK) | (with_reducible refine hK _ ?_;clear hK K) | (refine stq ?_;simp (disch:=(first | omega | (simp;omega))) only [go_sem,w64,ratsD,ratDV,g1,hlm,z1]) | refine as1 ?_ | fail)
     (refine endA (r:=.d (.bool false)) ?_)
     exact ⟨by rw [hn];rfl,rfl⟩
    ·have z1:decide (x.num<0)=false:=decide_eq_false c1
     by_cases c2:1000<x.num
     ·have hn:=hno (by rw [had,hvx,decide_eq_false (show ¬ (0≤x.num∧x.num≤1000) by omega)];rfl)
      have z2:decide (1000<x.num)=true:=decide_eq_true c2
      repeat' (first | refine sq ?_ | refine stp ?_ | refine blk_o (by decide) ?_ | (apply cb;(focus (simp (disch:=(first | omega | (simp;omega))) only [go_sem,w64,ratsD,ratDV,g1,hlm,z1,z2];try exact rfl));refine cok ?_) | (refine rgT ?_;intro K hK) | (refine dA ?_;intro K hK) | (with_reducible refine hK _ ?_;clear hK K) | (refine stq ?_;simp (disch:=(first | omega | (simp;omega))) only [go_sem,w64,ratsD,ratDV,g1,hlm,z1,z2]) | refine as1 ?_ | fail)
      (refine endA (r:=.d (.bool false)) ?_)
      exact ⟨by rw [hn];rfl,rfl⟩
     ·have z2:decide (1000<x.num)=false:=decide_eq_false c2
      by_cases c3:1000<x.den
      ·have hn:=hno (by rw [had,decide_eq_false (show ¬ x.den≤1000 by omega),Bool.and_false,Bool.and_false])
       have z3:decide (1000<x.den)=true:=decide_eq_true c3
       repeat' (first | refine sq ?_ | refine stp ?_ | refine blk_o (by decide) ?_ | (apply cb;(focus (simp (disch:=(first | omega | (simp;omega))) only [go_sem,w64,ratsD,ratDV,g1,hlm,z1,z2,z3];try exact rfl));refine cok ?_) | (refine rgT ?_;intro K hK) | (refine dA ?_;intro K hK) | (with_reducible refine hK _ ?_;clear hK K) | (refine stq ?_;simp (disch:=(first | omega | (simp;omega))) only [go_sem,w64,ratsD,ratDV,g1,hlm,z1,z2,z3]) | refine as1 ?_ | fail)
       (refine endA (r:=.d (.bool false)) ?_)
       exact ⟨by rw [hn];rfl,rfl⟩
      ·have z3:decide (1000<x.den)=false:=decide_eq_false c3
       have hy:=hA' (by rw [had,hvx,decide_eq_true (show 0≤x.num∧x.num≤1000 by omega),decide_eq_true (show x.den≤1000 by omega)];rfl)
       repeat' (first | refine sq ?_ | refine stp ?_ | refine blk_o (by decide) ?_ | (apply cb;(focus (simp (disch:=(first | omega | (simp;omega))) only [go_sem,w64,ratsD,ratDV,g1,hlm,z1,z2,z3,w1];try exact rfl));refine cok ?_) | (refine rgT ?_;intro K hK) | (refine dA ?_;intro K hK) | (with_reducible refine hK _ ?_;clear hK K) | (refine stq ?_;simp (disch:=(first | omega | (simp;omega))) only [go_sem,w64,ratsD,ratDV,g1,hlm,z1,z2,z3,w1]) | refine as1 ?_ | fail)
       refine ⟨l.length - (k+1),_,by omega,?_,k+1,rfl,by omega,hy,rfl⟩
       (refine sle_mk ?_ ?_ <;> simp (disch:=(first | omega | (simp;omega))) only [go_sem,w64,ratsD] <;> exact leafs)
  ·obtain rfl:k=l.length:=by omega
   have hy:=admB_yes hA
   repeat' (first | refine sq ?_ | refine stp ?_ | refine blk_o (by decide) ?_ | (apply cb;(focus (simp (disch:=(first | omega | (simp;omega))) only [go_sem,w64,ratsD,hlm];try exact rfl));refine cok ?_) | (refine rgT ?_;intro K hK) | (refine dA ?_;intro K hK) | (with_reducible refine hK _ ?_;clear hK K) | (refine stq ?_;simp (disch:=(first | omega | (simp;omega))) only [go_sem,w64,ratsD,hlm]) | refine as1 ?_ | fail)
   (refine endA (r:=.d (.bool (decide ((l.length:Int)=n)))) ?_)
   exact ⟨by rw [hy,Bool.true_and],rfl⟩
noncomputable def cov1 (s:Option RatD):Bool:=match s with
 | none=>false
 | some s=>!decide (cmpQ s ⟨1,1⟩<0)
noncomputable def pak1 (s:Option RatD):Bool:=match s with
 | none=>false
 | some s=>!decide (0<cmpQ s ⟨1,1⟩)
theorem covB_no {m n:Nat} {p:Nat→Nat→Bool} {w:List RatD} {v:Nat} (hv:v<m) (h:cov1 (sumF (selB (p v) w n))=false):covB m n p w=false:=by
 cases e:covB m n p w with
 | false=>rfl
 | true =>
  have:=List.all_eq_true.1 e v (List.mem_range.2 hv)
  have h2:cov1 (sumF (selB (p v) w n))=true:=this
  rw [h] at h2;cases h2
theorem covB_yes {m n:Nat} {p:Nat→Nat→Bool} {w:List RatD} (h:∀ v,v<m→cov1 (sumF (selB (p v) w n))=true):covB m n p w=true:=List.all_eq_true.2 fun v hv=>h v (List.mem_range.1 hv)
theorem pakB_no {m n:Nat} {p:Nat→Nat→Bool} {w:List RatD} {v:Nat} (hv:v<n) (h:pak1 (sumF (selB (fun i=>p i v) w m))=false):pakB m n p w=false:=by
 cases e:pakB m n p w with
 | false=>rfl
 | true =>
  have:=List.all_eq_true.1 e v (List.mem_range.2 hv)
  have h2:pak1 (sumF (selB (fun i=>p i v) w m))=true:=this
  rw [h] at h2;cases h2
theorem pakB_yes {m n:Nat} {p:Nat→Nat→Bool} {w:List RatD} (h:∀ v,v<n→pak1 (sumF (selB (fun i=>p i v) w m))=true):pakB m n p w=true:=List.all_eq_true.2 fun v hv=>h v (List.mem_range.1 hv)
set_option maxHeartbeats 4000000 in
theorem specCovA (nv:Int) (xs:List AtomD) (us:List Int) (hn:NmOK xs) (w:List RatD) (hw:w.length≤1048576) (hx:xs.length≤1048576):AFn 9 [.d (queryD nv xs us),.d (ratsD w)] [] (fun r os=>r=.d (.bool (covF nv xs us w))∧os=[]):=by
 refine afn_of (rv:=[.tmp 4]) tyT_ok Tryd.func9 rfl (by decide +kernel) Tryd.ntmps9 rfl (by simp) ?_
 have hxm:(xs.map atomDV).length=xs.length:=List.length_map ..
 have hwm:(w.map ratDV).length=w.length:=List.length_map ..
 have hsm:=l12SmallA w xs.length hw
 repeat' (first | refine sq ?_ | refine stp ?_ | refine blk_o (by decide) ?_ | (apply cb;(focus (simp (disch:=(first | omega | (simp;omega))) only [go_sem,w64,queryD,intsD,hxm];try exact rfl));refine cok ?_) | (refine rgT ?_;intro K hK) | (refine dA ?_;intro K hK) | (with_reducible refine hK _ ?_;clear hK K) | (refine stq ?_;simp (disch:=(first | omega | (simp;omega))) only [go_sem,w64,queryD,intsD,hxm]) | refine as1 ?_ | fail)
 (first | refine callA (specValidQA nv xs us hn) ?_ | refine callD (specValidQA nv xs us hn) ?_ | refine callE (specValidQA nv xs us hn) ?_ | refine callF (specValidQA nv xs us hn) ?_ ?_)
 cases hq:qOK nv xs us with
 | false =>
  repeat' (first | refine sq ?_ | refine stp ?_ | refine blk_o (by decide) ?_ | (apply cb;(focus (simp (disch:=(first | omega | (simp;omega))) only [go_sem,w64,hq];try exact rfl));refine cok ?_) | (refine rgT ?_;intro K hK) | (refine dA ?_;intro K hK) | (with_reducible refine hK _ ?_;clear hK K) | (refine stq ?_;simp (disch:=(first | omega | (simp;omega))) only [go_sem,w64,hq]) | refine as1 ?_ | fail)
  (refine endA (r:=.d (.bool false)) ?_)
  exact ⟨by unfold covF;rw [hq];rfl,rfl⟩
 | true =>
  obtain ⟨⟨v1,v2⟩,x1,x2⟩:=qOK_sz hq
  obtain ⟨m,rfl⟩:∃ m:Nat,nv=m:=⟨nv.toNat,by omega⟩
  have e0:covF m xs us w=((admB w && decide (w.length=xs.length)) && covB m xs.length (occP xs) w):=by unfold covF;rw [hq];simp
  have e1:(decide ((w.length:Int)=(xs.length:Nat)):Bool)=decide (w.length=xs.length):=by
   rw [Bool.eq_iff_iff,decide_eq_true_eq,decide_eq_true_eq];omega
  rw [e1] at hsm
  repeat' (first | refine sq ?_ | refine stp ?_ | refine blk_o (by decide) ?_ | (apply cb;(focus (simp (disch:=(first | omega | (simp;omega))) only [go_sem,w64,hq,hxm];try exact rfl));refine cok ?_) | (refine rgT ?_;intro K hK) | (refine dA ?_;intro K hK) | (with_reducible refine hK _ ?_;clear hK K) | (refine stq ?_;simp (disch:=(first | omega | (simp;omega))) only [go_sem,w64,hq,hxm]) | refine as1 ?_ | fail)
  (first | refine callA (hsm) ?_ | refine callD (hsm) ?_ | refine callE (hsm) ?_ | refine callF (hsm) ?_ ?_)
  cases had:(admB w && decide (w.length=xs.length)) with
  | false =>
   repeat' (first | refine sq ?_ | refine stp ?_ | refine blk_o (by decide) ?_ | (apply cb;(focus (simp (disch:=(first | omega | (simp;omega))) only [go_sem,w64];try exact rfl));refine cok ?_) | (refine rgT ?_;intro K hK) | (refine dA ?_;intro K hK) | (with_reducible refine hK _ ?_;clear hK K) | (refine stq ?_;simp (disch:=(first | omega | (simp;omega))) only [go_sem,w64]) | refine as1 ?_ | fail)
   (refine endA (r:=.d (.bool false)) ?_)
   exact ⟨by rw [e0,had];rfl,rfl⟩
  | true =>
   have hlw:w.length=xs.length:=by
    simp only [Bool.and_eq_true,decide_eq_true_eq] at had;exact had.2
   rw [had,Bool.true_and] at e0
   repeat' (first | refine sq ?_ | refine stp ?_ | refine blk_o (by decide) ?_ | (apply cb;(focus (simp (disch:=(first | omega | (simp;omega))) only [go_sem,w64];try exact rfl));refine cok ?_) | (refine rgT ?_;intro K hK) | (refine dA ?_;intro K hK) | (with_reducible refine hK _ ?_;clear hK K) | (refine stq ?_;simp (disch:=(first | omega | (simp;omega))) only [go_sem,w64]) | refine as1 ?_ | fail)
   refine awp_loopw (fun mm s=>∃ v:Nat,mm=m - v∧v≤m∧(∀ i,i<v→cov1 (sumF (selB (occP xs i) w xs.length))=true)∧s=mkS [(1,.d (ratsD w)),(2,.ptr 2 0),(5,.d (.int (v:Nat)))] [(2,[.d (.int (m:Nat)),.d (.sl 2 (xs.map atomDV)),.d (.sl 1 (us.map .int))])]) ?_ ?_
   ·refine ⟨_,_,?_,0,rfl,Nat.zero_le _,fun i hi=>absurd hi (Nat.not_lt_zero _),rfl⟩
    (refine sle_mk ?_ ?_ <;> simp (disch:=(first | omega | (simp;omega))) only [go_sem,w64,ratsD] <;> exact leafs)
   ·rintro mm s ⟨v,rfl,hv,hA,rfl⟩
    have w4:IntKind.i64.wrap ((v:Int)+1)=((v+1:Nat):Int):=by rw [w64 (by omega)];rfl
    repeat' (first | refine sq ?_ | refine stp ?_ | refine blk_o (by decide) ?_ | (apply cb;(focus (simp (disch:=(first | omega | (simp;omega))) only [go_sem,w64];try exact rfl));refine cok ?_) | (refine rgT ?_;intro K hK) | (refine dA ?_;intro K hK) | (with_reducible refine hK _ ?_;clear hK K) | (refine stq ?_;simp (disch:=(first | omega | (simp;omega))) only [go_sem,w64]) | refine as1 ?_ | fail)
    refine awp_if (p:=(v:Int)<(m:Nat)) (by simp (disch:=(first | omega | (simp;omega))) only [go_sem,w64]) ?_ ?_ <;> intro hc
    ·have hv2:v<m:=by omega
     repeat' (first | refine sq ?_ | refine stp ?_ | refine blk_o (by decide) ?_ | (apply cb;(focus (simp (disch:=(first | omega | (simp;omega))) only [go_sem,w64,hwm];try exact rfl));refine cok ?_) | (refine rgT ?_;intro K hK) | (refine dA ?_;intro K hK) | (with_reducible refine hK _ ?_;clear hK K) | (refine stq ?_;simp (disch:=(first | omega | (simp;omega))) only [go_sem,w64,hwm]) | refine as1 ?_ | fail)
     refine awp_loopw (fun mm s=>∃ i:Nat,mm=w.length - i∧i≤w.length∧s=mkS [(1,.d (ratsD w)),(2,.ptr 2 0),(5,.d (.int (v:Nat))),(6,.buf 27 33 2 ((selB (occP xs v) w i).map ratDV)),(7,.d (.int (i:Nat)))] [(2,[.d (.int (m:Nat)),.d (.sl 2 (xs.map atomDV)),.d (.sl 1 (us.map .int))])]) ?_ ?_
     ·refine ⟨_,_,?_,0,rfl,Nat.zero_le _,rfl⟩
      have e:selB (occP xs v) w 0=[]:=rfl
      (refine sle_mk ?_ ?_ <;> simp (disch:=(first | omega | (simp;omega))) only [go_sem,w64,e,List.map_nil,ratsD] <;> exact leafs)
     ·rintro mm s ⟨i,rfl,hi,rfl⟩
      have w5:IntKind.i64.wrap ((i:Int)+1)=((i+1:Nat):Int):=by rw [w64 (by omega)];rfl
      repeat' (first | refine sq ?_ | refine stp ?_ | refine blk_o (by decide) ?_ | (apply cb;(focus (simp (disch:=(first | omega | (simp;omega))) only [go_sem,w64,hwm,ratsD];try exact rfl));refine cok ?_) | (refine rgT ?_;intro K hK) | (refine dA ?_;intro K hK) | (with_reducible refine hK _ ?_;clear hK K) | (refine stq ?_;simp (disch:=(first | omega | (simp;omega))) only [go_sem,w64,hwm,ratsD]) | refine as1 ?_ | fail)
      refine awp_if (p:=(i:Int)<(w.length:Nat)) (by simp (disch:=(first | omega | (simp;omega))) only [go_sem,w64,hwm,ratsD]) ?_ ?_ <;> intro hc2
      ·have hi2:i<w.length:=by omega
       have r0:(xs.map atomDV).getD i (.bool false)=atomDV (ax xs i):=getDA' (by omega)
       have g1:(w.map ratDV).getD i (.bool false)=ratDV (qx w i):=getDq hi2
       have ht:selB (occP xs v) w (i+1)=if occ (ax xs i).vs v=true then selB (occP xs v) w i ++ [qx w i] else selB (occP xs v) w i:=rfl
       have hb:((selB (occP xs v) w i).map ratDV).length=(selB (occP xs v) w i).length:=List.length_map ..
       have hbl:=selB_len (occP xs v) w i
       have hix:i<xs.length:=by omega
       have hh:=specHasA (ax xs i) v
       generalize selB (occP xs v) w i=lb at *
       generalize ax xs i=x at *
       generalize hqx:qx w i=y at *
       repeat' (first | refine sq ?_ | refine stp ?_ | refine blk_o (by decide) ?_ | (apply cb;(focus (simp (disch:=(first | omega | (simp;omega))) only [go_sem,w64,r0,atomDV,intsD,hxm];try exact rfl));refine cok ?_) | (refine rgT ?_;intro K hK) | (refine dA ?_;intro K hK) | (with_reducible refine hK _ ?_;clear hK K) | (refine stq ?_;simp (disch:=(first | omega | (simp;omega))) only [go_sem,w64,r0,atomDV,intsD,hxm]) | refine as1 ?_ | fail)
       (first | refine callA (hh) ?_ | refine callD (hh) ?_ | refine callE (hh) ?_ | refine callF (hh) ?_ ?_)
       cases hoc:occ x.vs v with
       | true =>
        rw [if_pos hoc] at ht
        repeat' (first | refine sq ?_ | refine stp ?_ | refine blk_o (by decide) ?_ | (apply cb;(focus (simp (disch:=(first | omega | (simp;omega))) only [go_sem,w64,w5,hb,hwm,ratsD,ratDV,g1];try exact rfl));refine cok ?_) | (refine rgT ?_;intro K hK) | (refine dA ?_;intro K hK) | (with_reducible refine hK _ ?_;clear hK K) | (refine stq ?_;simp (disch:=(first | omega | (simp;omega))) only [go_sem,w64,w5,hb,hwm,ratsD,ratDV,g1]) | refine as1 ?_ | fail)
        refine ⟨w.length - (i+1),_,by omega,?_,i+1,rfl,by omega,rfl⟩
        rw [ht,List.map_append]
        (refine sle_mk ?_ ?_ <;> simp (disch:=(first | omega | (simp;omega))) only [go_sem,w64,List.map_cons,List.map_nil,ratDV,ratsD] <;> exact leafs)
       | false =>
        rw [if_neg (by rw [hoc];simp)] at ht
        repeat' (first | refine sq ?_ | refine stp ?_ | refine blk_o (by decide) ?_ | (apply cb;(focus (simp (disch:=(first | omega | (simp;omega))) only [go_sem,w64,w5,hwm,ratsD];try exact rfl));refine cok ?_) | (refine rgT ?_;intro K hK) | (refine dA ?_;intro K hK) | (with_reducible refine hK _ ?_;clear hK K) | (refine stq ?_;simp (disch:=(first | omega | (simp;omega))) only [go_sem,w64,w5,hwm,ratsD]) | refine as1 ?_ | fail)
        refine ⟨w.length - (i+1),_,by omega,?_,i+1,rfl,by omega,rfl⟩
        rw [ht]
        (refine sle_mk ?_ ?_ <;> simp (disch:=(first | omega | (simp;omega))) only [go_sem,w64,ratsD] <;> exact leafs)
      ·obtain rfl:i=w.length:=by omega
       have hno:=covB_no (p:=occP xs) (w:=w) (n:=xs.length) hv2
       have hyes:cov1 (sumF (selB (occP xs v) w xs.length))=true→∀ i,i<v+1→cov1 (sumF (selB (occP xs i) w xs.length))=true:=fun h i hi=>by
        by_cases e:i=v
        ·subst e;exact h
        ·exact hA i (by omega)
       have hsl:=selB_len (occP xs v) w xs.length
       rw [hlw]
       generalize selB (occP xs v) w xs.length=lb at *
       have hsu:=specSumA lb (by omega)
       repeat' (first | refine sq ?_ | refine stp ?_ | refine blk_o (by decide) ?_ | (apply cb;(focus (simp (disch:=(first | omega | (simp;omega))) only [go_sem,w64];try exact rfl));refine cok ?_) | (refine rgT ?_;intro K hK) | (refine dA ?_;intro K hK) | (with_reducible refine hK _ ?_;clear hK K) | (refine stq ?_;simp (disch:=(first | omega | (simp;omega))) only [go_sem,w64]) | refine as1 ?_ | fail)
       (first | refine callA (hsu) ?_ | refine callD (hsu) ?_ | refine callE (hsu) ?_ | refine callF (hsu) ?_ ?_)
       cases hs:sumF lb with
       | none =>
        have hn:=hno (by rw [hs];rfl)
        repeat' (first | refine sq ?_ | refine stp ?_ | refine blk_o (by decide) ?_ | (apply cb;(focus (simp (disch:=(first | omega | (simp;omega))) only [go_sem,w64,ansQ,ratDV];try exact rfl));refine cok ?_) | (refine rgT ?_;intro K hK) | (refine dA ?_;intro K hK) | (with_reducible refine hK _ ?_;clear hK K) | (refine stq ?_;simp (disch:=(first | omega | (simp;omega))) only [go_sem,w64,ansQ,ratDV]) | refine as1 ?_ | fail)
        (refine endA (r:=.d (.bool false)) ?_)
        exact ⟨by rw [e0,hn],rfl⟩
       | some s =>
        have hcm:=specCmpA s ⟨1,1⟩
        have hc1:cov1 (some s) = !decide (cmpQ s ⟨1,1⟩<0):=rfl
        rw [← hs] at hc1
        generalize cmpQ s ⟨1,1⟩=c at *
        repeat' (first | refine sq ?_ | refine stp ?_ | refine blk_o (by decide) ?_ | (apply cb;(focus (simp (disch:=(first | omega | (simp;omega))) only [go_sem,w64,ansQ,ratDV];try exact rfl));refine cok ?_) | (refine rgT ?_;intro K hK) | (refine dA ?_;intro K hK) | (with_reducible refine hK _ ?_;clear hK K) | (refine stq ?_;simp (disch:=(first | omega | (simp;omega))) only [go_sem,w64,ansQ,ratDV]) | refine as1 ?_ | fail)
        (first | refine callA (hcm) ?_ | refine callD (hcm) ?_ | refine callE (hcm) ?_ | refine callF (hcm) ?_ ?_)
        by_cases hcc:c<0
        ·have z1:decide (c<0)=true:=decide_eq_true hcc
         have hn:=hno (by rw [hc1,z1];rfl)
         repeat' (first | refine sq ?_ | refine stp ?_ | refine blk_o (by decide) ?_ | (apply cb;(focus (simp (disch:=(first | omega | (simp;omega))) only [go_sem,w64,z1];try exact rfl));refine cok ?_) | (refine rgT ?_;intro K hK) | (refine dA ?_;intro K hK) | (with_reducible refine hK _ ?_;clear hK K) | (refine stq ?_;simp (disch:=(first | omega | (simp;omega))) only [go_sem,w64,z1]) | refine as1 ?_ | fail)
         (refine endA (r:=.d (.bool false)) ?_)
         exact ⟨by rw [e0,hn],rfl⟩
        ·have z1:decide (c<0)=false:=decide_eq_false hcc
         have hy:=hyes (by rw [hc1,z1];rfl)
         repeat' (first | refine sq ?_ | refine stp ?_ | refine blk_o (by decide) ?_ | (apply cb;(focus (simp (disch:=(first | omega | (simp;omega))) only [go_sem,w64,z1,w4];try exact rfl));refine cok ?_) | (refine rgT ?_;intro K hK) | (refine dA ?_;intro K hK) | (with_reducible refine hK _ ?_;clear hK K) | (refine stq ?_;simp (disch:=(first | omega | (simp;omega))) only [go_sem,w64,z1,w4]) | refine as1 ?_ | fail)
         refine ⟨m - (v+1),_,by omega,?_,v+1,rfl,by omega,hy,rfl⟩
         (refine sle_mk ?_ ?_ <;> simp (disch:=(first | omega | (simp;omega))) only [go_sem,w64,ratsD] <;> exact leafs)
    ·obtain rfl:v=m:=by omega
     have hy:=covB_yes hA
     repeat' (first | refine sq ?_ | refine stp ?_ | refine blk_o (by decide) ?_ | (apply cb;(focus (simp (disch:=(first | omega | (simp;omega))) only [go_sem,w64];try exact rfl));refine cok ?_) | (refine rgT ?_;intro K hK) | (refine dA ?_;intro K hK) | (with_reducible refine hK _ ?_;clear hK K) | (refine stq ?_;simp (disch:=(first | omega | (simp;omega))) only [go_sem,w64]) | refine as1 ?_ | fail)
     (refine endA (r:=.d (.bool true)) ?_)
     exact ⟨by rw [e0,hy],rfl⟩
set_option maxHeartbeats 4000000 in
theorem specPakA (nv:Int) (xs:List AtomD) (us:List Int) (hn:NmOK xs) (w:List RatD) (hw:w.length≤1048576) (hx:xs.length≤1048576):AFn 11 [.d (queryD nv xs us),.d (ratsD w)] [] (fun r os=>r=.d (.bool (pakF nv xs us w))∧os=[]):=by
 refine afn_of (rv:=[.tmp 4]) tyT_ok Tryd.func11 rfl (by decide +kernel) Tryd.ntmps11 rfl (by simp) ?_
 have hxm:(xs.map atomDV).length=xs.length:=List.length_map ..
 have hwm:(w.map ratDV).length=w.length:=List.length_map ..
 have hsm:=l12SmallA w nv hw
 repeat' (first | refine sq ?_ | refine stp ?_ | refine blk_o (by decide) ?_ | (apply cb;(focus (simp (disch:=(first | omega | (simp;omega))) only [go_sem,w64,queryD,intsD,hxm];try exact rfl));refine cok ?_) | (refine rgT ?_;intro K hK) | (refine dA ?_;intro K hK) | (with_reducible refine hK _ ?_;clear hK K) | (refine stq ?_;simp (disch:=(first | omega | (simp;omega))) only [go_sem,w64,queryD,intsD,hxm]) | refine as1 ?_ | fail)
 (first | refine callA (specValidQA nv xs us hn) ?_ | refine callD (specValidQA nv xs us hn) ?_ | refine callE (specValidQA nv xs us hn) ?_ | refine callF (specValidQA nv xs us hn) ?_ ?_)
 cases hq:qOK nv xs us with
 | false =>
  repeat' (first | refine sq ?_ | refine stp ?_ | refine blk_o (by decide) ?_ | (apply cb;(focus (simp (disch:=(first | omega | (simp;omega))) only [go_sem,w64,hq];try exact rfl));refine cok ?_) | (refine rgT ?_;intro K hK) | (refine dA ?_;intro K hK) | (with_reducible refine hK _ ?_;clear hK K) | (refine stq ?_;simp (disch:=(first | omega | (simp;omega))) only [go_sem,w64,hq]) | refine as1 ?_ | fail)
  (refine endA (r:=.d (.bool false)) ?_)
  exact ⟨by unfold pakF;rw [hq];rfl,rfl⟩
 | true =>
  obtain ⟨⟨v1,v2⟩,x1,x2⟩:=qOK_sz hq
  obtain ⟨m,rfl⟩:∃ m:Nat,nv=m:=⟨nv.toNat,by omega⟩
  have e0:pakF m xs us w=((admB w && decide ((w.length:Int)=(m:Nat))) && pakB m xs.length (occP xs) w):=by unfold pakF;rw [hq];simp
  repeat' (first | refine sq ?_ | refine stp ?_ | refine blk_o (by decide) ?_ | (apply cb;(focus (simp (disch:=(first | omega | (simp;omega))) only [go_sem,w64,hq,hxm];try exact rfl));refine cok ?_) | (refine rgT ?_;intro K hK) | (refine dA ?_;intro K hK) | (with_reducible refine hK _ ?_;clear hK K) | (refine stq ?_;simp (disch:=(first | omega | (simp;omega))) only [go_sem,w64,hq,hxm]) | refine as1 ?_ | fail)
  (first | refine callA (hsm) ?_ | refine callD (hsm) ?_ | refine callE (hsm) ?_ | refine callF (hsm) ?_ ?_)
  cases had:(admB w && decide ((w.length:Int)=(m:Nat))) with
  | false =>
   repeat' (first | refine sq ?_ | refine stp ?_ | refine blk_o (by decide) ?_ | (apply cb;(focus (simp (disch:=(first | omega | (simp;omega))) only [go_sem,w64];try exact rfl));refine cok ?_) | (refine rgT ?_;intro K hK) | (refine dA ?_;intro K hK) | (with_reducible refine hK _ ?_;clear hK K) | (refine stq ?_;simp (disch:=(first | omega | (simp;omega))) only [go_sem,w64]) | refine as1 ?_ | fail)
   (refine endA (r:=.d (.bool false)) ?_)
   exact ⟨by rw [e0,had];rfl,rfl⟩
  | true =>
   have hlw:w.length=m:=by
    simp only [Bool.and_eq_true,decide_eq_true_eq] at had;omega
   rw [had,Bool.true_and] at e0
   repeat' (first | refine sq ?_ | refine stp ?_ | refine blk_o (by decide) ?_ | (apply cb;(focus (simp (disch:=(first | omega | (simp;omega))) only [go_sem,w64,hxm];try exact rfl));refine cok ?_) | (refine rgT ?_;intro K hK) | (refine dA ?_;intro K hK) | (with_reducible refine hK _ ?_;clear hK K) | (refine stq ?_;simp (disch:=(first | omega | (simp;omega))) only [go_sem,w64,hxm]) | refine as1 ?_ | fail)
   refine awp_loopw (fun mm s=>∃ i:Nat,mm=xs.length - i∧i≤xs.length∧(∀ j,j<i→pak1 (sumF (selB (fun v=>occP xs v j) w m))=true)∧s=mkS [(1,.d (ratsD w)),(2,.ptr 2 0),(5,.d (.int (i:Nat)))] [(2,[.d (.int (m:Nat)),.d (.sl 2 (xs.map atomDV)),.d (.sl 1 (us.map .int))])]) ?_ ?_
   ·refine ⟨_,_,?_,0,rfl,Nat.zero_le _,fun i hi=>absurd hi (Nat.not_lt_zero _),rfl⟩
    (refine sle_mk ?_ ?_ <;> simp (disch:=(first | omega | (simp;omega))) only [go_sem,w64,ratsD] <;> exact leafs)
   ·rintro mm s ⟨i,rfl,hi,hA,rfl⟩
    have w4:IntKind.i64.wrap ((i:Int)+1)=((i+1:Nat):Int):=by rw [w64 (by omega)];rfl
    repeat' (first | refine sq ?_ | refine stp ?_ | refine blk_o (by decide) ?_ | (apply cb;(focus (simp (disch:=(first | omega | (simp;omega))) only [go_sem,w64,hxm];try exact rfl));refine cok ?_) | (refine rgT ?_;intro K hK) | (refine dA ?_;intro K hK) | (with_reducible refine hK _ ?_;clear hK K) | (refine stq ?_;simp (disch:=(first | omega | (simp;omega))) only [go_sem,w64,hxm]) | refine as1 ?_ | fail)
    refine awp_if (p:=(i:Int)<(xs.length:Nat)) (by simp (disch:=(first | omega | (simp;omega))) only [go_sem,w64,hxm]) ?_ ?_ <;> intro hc
    ·have hi2:i<xs.length:=by omega
     repeat' (first | refine sq ?_ | refine stp ?_ | refine blk_o (by decide) ?_ | (apply cb;(focus (simp (disch:=(first | omega | (simp;omega))) only [go_sem,w64,hwm];try exact rfl));refine cok ?_) | (refine rgT ?_;intro K hK) | (refine dA ?_;intro K hK) | (with_reducible refine hK _ ?_;clear hK K) | (refine stq ?_;simp (disch:=(first | omega | (simp;omega))) only [go_sem,w64,hwm]) | refine as1 ?_ | fail)
     refine awp_loopw (fun mm s=>∃ v:Nat,mm=m - v∧v≤m∧s=mkS [(1,.d (ratsD w)),(2,.ptr 2 0),(5,.d (.int (i:Nat))),(6,.buf 27 33 2 ((selB (fun v=>occP xs v i) w v).map ratDV)),(7,.d (.int (v:Nat)))] [(2,[.d (.int (m:Nat)),.d (.sl 2 (xs.map atomDV)),.d (.sl 1 (us.map .int))])]) ?_ ?_
     ·refine ⟨_,_,?_,0,rfl,Nat.zero_le _,rfl⟩
      have e:selB (fun v=>occP xs v i) w 0=[]:=rfl
      (refine sle_mk ?_ ?_ <;> simp (disch:=(first | omega | (simp;omega))) only [go_sem,w64,e,List.map_nil,ratsD] <;> exact leafs)
     ·rintro mm s ⟨v,rfl,hv,rfl⟩
      have w5:IntKind.i64.wrap ((v:Int)+1)=((v+1:Nat):Int):=by rw [w64 (by omega)];rfl
      repeat' (first | refine sq ?_ | refine stp ?_ | refine blk_o (by decide) ?_ | (apply cb;(focus (simp (disch:=(first | omega | (simp;omega))) only [go_sem,w64,hwm,ratsD];try exact rfl));refine cok ?_) | (refine rgT ?_;intro K hK) | (refine dA ?_;intro K hK) | (with_reducible refine hK _ ?_;clear hK K) | (refine stq ?_;simp (disch:=(first | omega | (simp;omega))) only [go_sem,w64,hwm,ratsD]) | refine as1 ?_ | fail)
      refine awp_if (p:=(v:Int)<(m:Nat)) (by simp (disch:=(first | omega | (simp;omega))) only [go_sem,w64,hwm,ratsD]) ?_ ?_ <;> intro hc2
      ·have hv2:v<w.length:=by omega
       have r0:(xs.map atomDV).getD i (.bool false)=atomDV (ax xs i):=getDA' (by omega)
       have g1:(w.map ratDV).getD v (.bool false)=ratDV (qx w v):=getDq hv2
       have ht:selB (fun v=>occP xs v i) w (v+1)=if occ (ax xs i).vs v=true then selB (fun v=>occP xs v i) w v ++ [qx w v] else selB (fun v=>occP xs v i) w v:=rfl
       have hb:((selB (fun v=>occP xs v i) w v).map ratDV).length=(selB (fun v=>occP xs v i) w v).length:=List.length_map ..
       have hbl:=selB_len (fun v=>occP xs v i) w v
       have hh:=specHasA (ax xs i) v
       generalize selB (fun v=>occP xs v i) w v=lb at *
       generalize ax xs i=x at *
       generalize hqx:qx w v=y at *
       repeat' (first | refine sq ?_ | refine stp ?_ | refine blk_o (by decide) ?_ | (apply cb;(focus (simp (disch:=(first | omega | (simp;omega))) only [go_sem,w64,r0,atomDV,intsD,hxm];try exact rfl));refine cok ?_) | (refine rgT ?_;intro K hK) | (refine dA ?_;intro K hK) | (with_reducible refine hK _ ?_;clear hK K) | (refine stq ?_;simp (disch:=(first | omega | (simp;omega))) only [go_sem,w64,r0,atomDV,intsD,hxm]) | refine as1 ?_ | fail)
       (first | refine callA (hh) ?_ | refine callD (hh) ?_ | refine callE (hh) ?_ | refine callF (hh) ?_ ?_)
       cases hoc:occ x.vs v with
       | true =>
        rw [if_pos hoc] at ht
        repeat' (first | refine sq ?_ | refine stp ?_ | refine blk_o (by decide) ?_ | (apply cb;(focus (simp (disch:=(first | omega | (simp;omega))) only [go_sem,w64,w5,hb,hwm,ratsD,ratDV,g1];try exact rfl));refine cok ?_) | (refine rgT ?_;intro K hK) | (refine dA ?_;intro K hK) | (with_reducible refine hK _ ?_;clear hK K) | (refine stq ?_;simp (disch:=(first | omega | (simp;omega))) only [go_sem,w64,w5,hb,hwm,ratsD,ratDV,g1]) | refine as1 ?_ | fail)
        refine ⟨m - (v+1),_,by omega,?_,v+1,rfl,by omega,rfl⟩
        rw [ht,List.map_append]
        (refine sle_mk ?_ ?_ <;> simp (disch:=(first | omega | (simp;omega))) only [go_sem,w64,List.map_cons,List.map_nil,ratDV,ratsD] <;> exact leafs)
       | false =>
        rw [if_neg (by rw [hoc];simp)] at ht
        repeat' (first | refine sq ?_ | refine stp ?_ | refine blk_o (by decide) ?_ | (apply cb;(focus (simp (disch:=(first | omega | (simp;omega))) only [go_sem,w64,w5,hwm,ratsD];try exact rfl));refine cok ?_) | (refine rgT ?_;intro K hK) | (refine dA ?_;intro K hK) | (with_reducible refine hK _ ?_;clear hK K) | (refine stq ?_;simp (disch:=(first | omega | (simp;omega))) only [go_sem,w64,w5,hwm,ratsD]) | refine as1 ?_ | fail)
        refine ⟨m - (v+1),_,by omega,?_,v+1,rfl,by omega,rfl⟩
        rw [ht]
        (refine sle_mk ?_ ?_ <;> simp (disch:=(first | omega | (simp;omega))) only [go_sem,w64,ratsD] <;> exact leafs)
      ·obtain rfl:v=m:=by omega
       have hno:=pakB_no (p:=occP xs) (w:=w) (m:=v) hi2
       have hyes:pak1 (sumF (selB (fun v=>occP xs v i) w v))=true→∀ j,j<i+1→pak1 (sumF (selB (fun v=>occP xs v j) w v))=true:=fun h j hj=>by
        by_cases e:j=i
        ·subst e;exact h
        ·exact hA j (by omega)
       have hsl:=selB_len (fun v=>occP xs v i) w v
       generalize selB (fun v=>occP xs v i) w v=lb at *
       have hsu:=specSumA lb (by omega)
       repeat' (first | refine sq ?_ | refine stp ?_ | refine blk_o (by decide) ?_ | (apply cb;(focus (simp (disch:=(first | omega | (simp;omega))) only [go_sem,w64];try exact rfl));refine cok ?_) | (refine rgT ?_;intro K hK) | (refine dA ?_;intro K hK) | (with_reducible refine hK _ ?_;clear hK K) | (refine stq ?_;simp (disch:=(first | omega | (simp;omega))) only [go_sem,w64]) | refine as1 ?_ | fail)
       (first | refine callA (hsu) ?_ | refine callD (hsu) ?_ | refine callE (hsu) ?_ | refine callF (hsu) ?_ ?_)
       cases hs:sumF lb with
       | none =>
        have hn:=hno (by rw [hs];rfl)
        repeat' (first | refine sq ?_ | refine stp ?_ | refine blk_o (by decide) ?_ | (apply cb;(focus (simp (disch:=(first | omega | (simp;omega))) only [go_sem,w64,ansQ,ratDV];try exact rfl));refine cok ?_) | (refine rgT ?_;intro K hK) | (refine dA ?_;intro K hK) | (with_reducible refine hK _ ?_;clear hK K) | (refine stq ?_;simp (disch:=(first | omega | (simp;omega))) only [go_sem,w64,ansQ,ratDV]) | refine as1 ?_ | fail)
        (refine endA (r:=.d (.bool false)) ?_)
        exact ⟨by rw [e0,hn],rfl⟩
       | some s =>
        have hcm:=specCmpA s ⟨1,1⟩
        have hc1:pak1 (some s) = !decide (0<cmpQ s ⟨1,1⟩):=rfl
        rw [← hs] at hc1
        generalize cmpQ s ⟨1,1⟩=c at *
        repeat' (first | refine sq ?_ | refine stp ?_ | refine blk_o (by decide) ?_ | (apply cb;(focus (simp (disch:=(first | omega | (simp;omega))) only [go_sem,w64,ansQ,ratDV];try exact rfl));refine cok ?_) | (refine rgT ?_;intro K hK) | (refine dA ?_;intro K hK) | (with_reducible refine hK _ ?_;clear hK K) | (refine stq ?_;simp (disch:=(first | omega | (simp;omega))) only [go_sem,w64,ansQ,ratDV]) | refine as1 ?_ | fail)
        (first | refine callA (hcm) ?_ | refine callD (hcm) ?_ | refine callE (hcm) ?_ | refine callF (hcm) ?_ ?_)
        by_cases hcc:0<c
        ·have z1:decide (0<c)=true:=decide_eq_true hcc
         have hn:=hno (by rw [hc1,z1];rfl)
         repeat' (first | refine sq ?_ | refine stp ?_ | refine blk_o (by decide) ?_ | (apply cb;(focus (simp (disch:=(first | omega | (simp;omega))) only [go_sem,w64,z1];try exact rfl));refine cok ?_) | (refine rgT ?_;intro K hK) | (refine dA ?_;intro K hK) | (with_reducible refine hK _ ?_;clear hK K) | (refine stq ?_;simp (disch:=(first | omega | (simp;omega))) only [go_sem,w64,z1]) | refine as1 ?_ | fail)
         (refine endA (r:=.d (.bool false)) ?_)
         exact ⟨by rw [e0,hn],rfl⟩
        ·have z1:decide (0<c)=false:=decide_eq_false hcc
         have hy:=hyes (by rw [hc1,z1];rfl)
         repeat' (first | refine sq ?_ | refine stp ?_ | refine blk_o (by decide) ?_ | (apply cb;(focus (simp (disch:=(first | omega | (simp;omega))) only [go_sem,w64,z1,w4];try exact rfl));refine cok ?_) | (refine rgT ?_;intro K hK) | (refine dA ?_;intro K hK) | (with_reducible refine hK _ ?_;clear hK K) | (refine stq ?_;simp (disch:=(first | omega | (simp;omega))) only [go_sem,w64,z1,w4]) | refine as1 ?_ | fail)
         refine ⟨xs.length - (i+1),_,by omega,?_,i+1,rfl,by omega,hy,rfl⟩
         (refine sle_mk ?_ ?_ <;> simp (disch:=(first | omega | (simp;omega))) only [go_sem,w64,ratsD] <;> exact leafs)
    ·obtain rfl:i=xs.length:=by omega
     have hy:=pakB_yes hA
     repeat' (first | refine sq ?_ | refine stp ?_ | refine blk_o (by decide) ?_ | (apply cb;(focus (simp (disch:=(first | omega | (simp;omega))) only [go_sem,w64];try exact rfl));refine cok ?_) | (refine rgT ?_;intro K hK) | (refine dA ?_;intro K hK) | (with_reducible refine hK _ ?_;clear hK K) | (refine stq ?_;simp (disch:=(first | omega | (simp;omega))) only [go_sem,w64]) | refine as1 ?_ | fail)
     (refine endA (r:=.d (.bool true)) ?_)
     exact ⟨by rw [e0,hy],rfl⟩
end Go.Proofs.YtkohkoiegmcghaaDoor
namespace Go.Proofs.YtkohkoiegmcghaaDoor
set_option linter.unusedSimpArgs false
set_option linter.unusedVariables false
attribute [local go_sem ↓] reduceIte
attribute [local go_sem] Nat.reduceEqDiff Nat.reduceLT Nat.reduceAdd Nat.reduceLeDiff Nat.reduceMul Nat.reduceBEq Nat.reduceSub reduceCtorEq Int.reduceLE Int.reduceNeg Int.reduceLT
open Go.RowKit
noncomputable def mcF (nv:Int) (xs:List AtomD) (us:List Int):BestS:=mnF (cpF nv xs us).A (cpF nv xs us).B (cpF nv xs us).C
noncomputable def dpF (nv:Int) (xs:List AtomD) (us:List Int):LpS:=dlF (cpF nv xs us).A (cpF nv xs us).B (cpF nv xs us).C
noncomputable def mpF (nv:Int) (xs:List AtomD) (us:List Int):BestS:=mxF (dpF nv xs us).A (dpF nv xs us).B (dpF nv xs us).C
structure SmallP (p:LpS):Prop where
 a:p.A.length≤1048576
 r:∀ i,i<p.A.length→(mx p.A i).length≤1048576
 b:p.B.length≤1048576
 c:p.C.length≤1048576
theorem small0:SmallP ⟨[],[],[],false⟩:=⟨Nat.zero_le _,fun i hi=>absurd hi (Nat.not_lt_zero _),Nat.zero_le _,Nat.zero_le _⟩
theorem cp_small (nv:Int) (xs:List AtomD) (us:List Int):SmallP (cpF nv xs us):=by
 unfold cpF
 split
 ·rename_i h
  obtain ⟨v,x1,x2⟩:=qOK_sz h
  refine ⟨?_,fun i hi=>?_,?_,?_⟩
  ·simp [cvA,idTo_len];omega
  ·have hi2:i<(idTo nv.toNat).length:=by simpa [cvA] using hi
   have:mx (cvA (idTo nv.toNat) xs) i=rowC xs (idTo nv.toNat)[i]:=by simp [mx,cvA,hi2,List.getD]
   rw [this];simp [rowC];omega
  ·simp;omega
  ·simp;omega
 ·exact small0
theorem tr_len (A:List (List RatD)) (n:Nat):(trQ A n).length=n:=by simp [trQ]
theorem dl_small {A:List (List RatD)} {B C:List RatD} (hA:A.length≤1048576) (hB:B.length≤1048576) (hC:C.length≤1048576):SmallP (dlF A B C):=by
 unfold dlF
 split
 ·refine ⟨?_,fun i hi=>?_,hC,hB⟩
  ·rw [tr_len];exact hC
  ·have hi2:i<C.length:=by rw [tr_len] at hi;exact hi
   have:mx (trQ A C.length) i=A.map fun r=>qx r i:=by simp [mx,trQ,hi2,List.getD]
   rw [this,List.length_map];exact hA
 ·exact small0
theorem dp_small (nv:Int) (xs:List AtomD) (us:List Int):SmallP (dpF nv xs us):=dl_small (cp_small nv xs us).a (cp_small nv xs us).b (cp_small nv xs us).c
theorem mc_sz (nv:Int) (xs:List AtomD) (us:List Int):(mcF nv xs us).pt.length≤1048576:=mn_sz _ _ _
theorem mp_sz (nv:Int) (xs:List AtomD) (us:List Int):(mpF nv xs us).pt.length≤1048576:=mxF_sz _ _ _
theorem cpF_no {nv:Int} {xs:List AtomD} {us:List Int} (h:(cpF nv xs us).ok=false):cpF nv xs us=⟨[],[],[],false⟩:=by
 unfold cpF at h ⊢
 split
 ·rename_i hq;rw [if_pos hq] at h;cases h
 ·rfl
theorem mc_no {nv:Int} {xs:List AtomD} {us:List Int} (h:(cpF nv xs us).ok=false):mcF nv xs us=best0:=by unfold mcF;rw [cpF_no h];rfl
theorem mp_no {nv:Int} {xs:List AtomD} {us:List Int} (h:(cpF nv xs us).ok=false):mpF nv xs us=best0:=by unfold mpF dpF;rw [cpF_no h];rfl
section
variable (nv:Int) (xs:List AtomD) (us:List Int) (hn:NmOK xs)
include hn
set_option maxRecDepth 100000 in
set_option maxHeartbeats 2000000 in
theorem implMinCoverG:AFnG 16 [.d (queryD nv xs us)] (fun r os=>r=ansB (mcF nv xs us)∧os=[]):=by
 refine afn_ofG (rv:=[.tmp 2,.cell 3 33,.tmp 4]) tyW_ok Tryd.func16 rfl (by decide +kernel) Tryd.ntmps16 rfl (by simp) ?_
 have hcv:=implCoverG nv xs us hn
 have hsm:=cp_small nv xs us
 unfold mcF
 generalize cpF nv xs us=p at *
 obtain ⟨pa,pr,pb,pc⟩:=hsm
 have hmn:=implMinA p.A p.B p.C pa pr pb pc
 generalize mnF p.A p.B p.C=F at *
 repeat' (first | refine sq ?_ | refine stp ?_ | refine blk_o (by decide) ?_ | (apply cb;(focus (simp (disch:=(first | omega | (simp;omega))) only [go_sem,w64];try exact rfl));refine cok ?_) | (with_reducible refine hK _ ?_;clear hK K) | (refine stq ?_;simp (disch:=(first | omega | (simp;omega))) only [go_sem,w64]) | refine as1 ?_ | fail)
 refine awp_region' tyW_ok ?_;intro K hK
 repeat' (first | refine sq ?_ | refine stp ?_ | refine blk_o (by decide) ?_ | (apply cb;(focus (simp (disch:=(first | omega | (simp;omega))) only [go_sem,w64,queryD,intsD];try exact rfl));refine cok ?_) | (with_reducible refine hK _ ?_;clear hK K) | (refine stq ?_;simp (disch:=(first | omega | (simp;omega))) only [go_sem,w64,queryD,intsD]) | refine as1 ?_ | fail)
 refine awp_regionY (o:=?o) tyW_ok 1 ?h1 ?h2 ?h3
 case h1=>rfl
 case h2=>rfl
 intro K K2 hK hK2
 repeat' (first | refine sq ?_ | refine stp ?_ | refine blk_o (by decide) ?_ | (apply cb;(focus (simp (disch:=(first | omega | (simp;omega))) only [go_sem,w64];try exact rfl));refine cok ?_) | (with_reducible refine hK _ ?_;clear hK K) | (refine stq ?_;simp (disch:=(first | omega | (simp;omega))) only [go_sem,w64]) | refine as1 ?_ | fail)
 refine lcallG 9 rfl rfl rfl (by decide) hcv (by (repeat (first | exact ASubs.nil | refine ASubs.cons (by first | exact ASub.d _ | exact ASub.dd (dle_wh _ _) | exact ASub.dd (dle_rowsV _) | exact ASub.dd (dle_rowsW _) | exact ASub.dd (dle_relW _ _) | exact ASub.bufd _ _ (dle_rowsV _) | exact ASub.nil _ | exact ASub.nn | exact ASub.buf _ _ _ _ | exact ASub.loc _ | exact ASub.ptr _ _ _ rfl | exact ASub.arr _ _ _ _ rfl | exact ASub.any _ | exact ASub.std rfl (dle_refl _)) ?_));done) ?_
 rintro r os ⟨rfl,rfl⟩
 refine ⟨by simp,hK2 _ ?_⟩
 clear hK2 K2
 repeat' (first | refine sq ?_ | refine stp ?_ | refine blk_o (by decide) ?_ | (apply cb;(focus (simp (disch:=(first | omega | (simp;omega))) only [go_sem,w64,ansP,lpD,matD,ratsD];try exact rfl));refine cok ?_) | (refine rgW ?_;intro K hK) | (refine dA ?_;intro K hK) | (with_reducible refine hK _ ?_;clear hK K) | (refine stq ?_;simp (disch:=(first | omega | (simp;omega))) only [go_sem,w64,ansP,lpD,matD,ratsD]) | refine as1 ?_ | fail)
 (first | refine callA (hmn) ?_ | refine callD (hmn) ?_ | refine callE (hmn) ?_ | refine callF (hmn) ?_ ?_)
 repeat' (first | refine sq ?_ | refine stp ?_ | refine blk_o (by decide) ?_ | (apply cb;(focus (simp (disch:=(first | omega | (simp;omega))) only [go_sem,w64,ansB,ratDV];try exact rfl));refine cok ?_) | (refine rgW ?_;intro K hK) | (refine dA ?_;intro K hK) | (with_reducible refine hK _ ?_;clear hK K) | (refine stq ?_;simp (disch:=(first | omega | (simp;omega))) only [go_sem,w64,ansB,ratDV]) | refine as1 ?_ | fail)
 (refine endA (r:=.tup [.d (whQ F.pt),.d (.agg [.int F.val.num,.int F.val.den]),.d (.bool F.found)]) ?_)
 exact ⟨rfl,rfl⟩
set_option maxRecDepth 100000 in
set_option maxHeartbeats 2000000 in
theorem implMaxPackG:AFnG 12 [.d (queryD nv xs us)] (fun r os=>r=ansB (mpF nv xs us)∧os=[]):=by
 refine afn_ofG (rv:=[.tmp 2,.cell 3 33,.tmp 4]) tyW_ok Tryd.func12 rfl (by decide +kernel) Tryd.ntmps12 rfl (by simp) ?_
 have hcv:=implCoverG nv xs us hn
 have hsm:=cp_small nv xs us
 have hsd:=dp_small nv xs us
 unfold mpF dpF at *
 generalize cpF nv xs us=p at *
 obtain ⟨pa,pr,pb,pc⟩:=hsm
 have hdu:=implDualA p.A p.B p.C pa pr pb pc
 generalize dlF p.A p.B p.C=d at *
 obtain ⟨da,dr,db,dc⟩:=hsd
 have hmn:=implMaxA d.A d.B d.C da dr db dc
 generalize mxF d.A d.B d.C=F at *
 repeat' (first | refine sq ?_ | refine stp ?_ | refine blk_o (by decide) ?_ | (apply cb;(focus (simp (disch:=(first | omega | (simp;omega))) only [go_sem,w64];try exact rfl));refine cok ?_) | (with_reducible refine hK _ ?_;clear hK K) | (refine stq ?_;simp (disch:=(first | omega | (simp;omega))) only [go_sem,w64]) | refine as1 ?_ | fail)
 refine awp_region' tyW_ok ?_;intro K hK
 repeat' (first | refine sq ?_ | refine stp ?_ | refine blk_o (by decide) ?_ | (apply cb;(focus (simp (disch:=(first | omega | (simp;omega))) only [go_sem,w64,queryD,intsD];try exact rfl));refine cok ?_) | (with_reducible refine hK _ ?_;clear hK K) | (refine stq ?_;simp (disch:=(first | omega | (simp;omega))) only [go_sem,w64,queryD,intsD]) | refine as1 ?_ | fail)
 refine awp_regionY (o:=?o) tyW_ok 1 ?h1 ?h2 ?h3
 case h1=>rfl
 case h2=>rfl
 intro K K2 hK hK2
 repeat' (first | refine sq ?_ | refine stp ?_ | refine blk_o (by decide) ?_ | (apply cb;(focus (simp (disch:=(first | omega | (simp;omega))) only [go_sem,w64];try exact rfl));refine cok ?_) | (with_reducible refine hK _ ?_;clear hK K) | (refine stq ?_;simp (disch:=(first | omega | (simp;omega))) only [go_sem,w64]) | refine as1 ?_ | fail)
 refine lcallG 11 rfl rfl rfl (by decide) hcv (by (repeat (first | exact ASubs.nil | refine ASubs.cons (by first | exact ASub.d _ | exact ASub.dd (dle_wh _ _) | exact ASub.dd (dle_rowsV _) | exact ASub.dd (dle_rowsW _) | exact ASub.dd (dle_relW _ _) | exact ASub.bufd _ _ (dle_rowsV _) | exact ASub.nil _ | exact ASub.nn | exact ASub.buf _ _ _ _ | exact ASub.loc _ | exact ASub.ptr _ _ _ rfl | exact ASub.arr _ _ _ _ rfl | exact ASub.any _ | exact ASub.std rfl (dle_refl _)) ?_));done) ?_
 rintro r os ⟨rfl,rfl⟩
 refine ⟨by simp,hK2 _ ?_⟩
 clear hK2 K2
 repeat' (first | refine sq ?_ | refine stp ?_ | refine blk_o (by decide) ?_ | (apply cb;(focus (simp (disch:=(first | omega | (simp;omega))) only [go_sem,w64,ansP,lpD,matD,ratsD];try exact rfl));refine cok ?_) | (refine rgW ?_;intro K hK) | (refine dA ?_;intro K hK) | (with_reducible refine hK _ ?_;clear hK K) | (refine stq ?_;simp (disch:=(first | omega | (simp;omega))) only [go_sem,w64,ansP,lpD,matD,ratsD]) | refine as1 ?_ | fail)
 (first | refine callA (hdu) ?_ | refine callD (hdu) ?_ | refine callE (hdu) ?_ | refine callF (hdu) ?_ ?_)
 repeat' (first | refine sq ?_ | refine stp ?_ | refine blk_o (by decide) ?_ | (apply cb;(focus (simp (disch:=(first | omega | (simp;omega))) only [go_sem,w64,ansP,lpD,matD,ratsD];try exact rfl));refine cok ?_) | (refine rgW ?_;intro K hK) | (refine dA ?_;intro K hK) | (with_reducible refine hK _ ?_;clear hK K) | (refine stq ?_;simp (disch:=(first | omega | (simp;omega))) only [go_sem,w64,ansP,lpD,matD,ratsD]) | refine as1 ?_ | fail)
 (first | refine callA (hmn) ?_ | refine callD (hmn) ?_ | refine callE (hmn) ?_ | refine callF (hmn) ?_ ?_)
 repeat' (first | refine sq ?_ | refine stp ?_ | refine blk_o (by decide) ?_ | (apply cb;(focus (simp (disch:=(first | omega | (simp;omega))) only [go_sem,w64,ansB,ratDV];try exact rfl));refine cok ?_) | (refine rgW ?_;intro K hK) | (refine dA ?_;intro K hK) | (with_reducible refine hK _ ?_;clear hK K) | (refine stq ?_;simp (disch:=(first | omega | (simp;omega))) only [go_sem,w64,ansB,ratDV]) | refine as1 ?_ | fail)
 (refine endA (r:=.tup [.d (whQ F.pt),.d (.agg [.int F.val.num,.int F.val.den]),.d (.bool F.found)]) ?_)
 exact ⟨rfl,rfl⟩
end
end Go.Proofs.YtkohkoiegmcghaaDoor
