/- Lemmas for the proof of FnExactAtomSizes, part 15 of 19: no condition of their own. -/
import Derived.Test.YtlpdbkhekbdceaaJ14
import Derived.Test.YtlpdbkhekbdceaaJ1
import Derived.Test.YtlpdbkhekbdceaaJ8
import Derived.Test.YtlpdbkhekbdceaaJ12
namespace Go.Proofs.Ytlpdbkhekbdceaa
set_option linter.unusedSimpArgs false
set_option linter.unusedVariables false
attribute [local go_sem ↓] reduceIte
attribute [local go_sem] Nat.reduceEqDiff Nat.reduceLT Nat.reduceAdd Nat.reduceLeDiff Nat.reduceMul Nat.reduceBEq Nat.reduceSub reduceCtorEq Int.reduceLE Int.reduceNeg Int.reduceLT
open Go.RowKit
theorem copyRelA (ar:Int) (l:List (List Int)) (hl:l.length≤1048576) (hr:∀ x∈l,x.length≤1048576):AFn 66 [.d (relD ar l)] [] (fun r os=>r=.d (relD ar l)∧os=[]):=by
 suffices h:AFn 66 [.d (relD ar l)] [] (fun r os=>r=.d (.agg [.int ar,rowsV l])∧os=[]) from
  afn_weak h fun r os ⟨h1,h2⟩=>⟨_,by rw [h1];exact .dd (dle_agg (.cons (dle_refl _) (.cons (dle_rowsV l) .nil))),rfl,h2⟩
 refine afn_of (rv:=[.cell 2 53]) tyT_ok Try.func66 rfl (by decide +kernel) Try.ntmps66 rfl (by simp) ?_
 repeat' (first | refine sq ?_ | refine stp ?_ | refine blk_o (by decide) ?_ | (apply cb;(focus (simp (disch:=(first | omega | (simp;omega))) only [go_sem,w64];try exact rfl));refine cok ?_) | (refine rgT ?_;intro K hK) | (refine dA ?_;intro K hK) | (with_reducible refine hK _ ?_;clear hK K) | (refine stq ?_;simp (disch:=(first | omega | (simp;omega))) only [go_sem,w64]) | refine as1 ?_ | fail)
 (first | refine callA (copyRowsA l hl hr) ?_ | refine callD (copyRowsA l hl hr) ?_ | refine callE (copyRowsA l hl hr) ?_ | refine callF (copyRowsA l hl hr) ?_ ?_)
 repeat' (first | refine sq ?_ | refine stp ?_ | refine blk_o (by decide) ?_ | (apply cb;(focus (simp (disch:=(first | omega | (simp;omega))) only [go_sem,w64];try exact rfl));refine cok ?_) | (refine rgT ?_;intro K hK) | (refine dA ?_;intro K hK) | (with_reducible refine hK _ ?_;clear hK K) | (refine stq ?_;simp (disch:=(first | omega | (simp;omega))) only [go_sem,w64]) | refine as1 ?_ | fail)
 (refine endA (r:=.d (.agg [.int ar,rowsV l])) ?_)
 exact ⟨rfl,rfl⟩
noncomputable def lkF (xs:List TableD) (s:ByteArray):Option TableD:=if dbOK xs=true then xs.find? (fun x=>strEq x.nm s) else none
noncomputable def lkAr (xs:List TableD) (s:ByteArray):Int:=match lkF xs s with
 | some x=>x.ar
 | none=>0
noncomputable def lkRows (xs:List TableD) (s:ByteArray):List (List Int):=match lkF xs s with
 | some x=>x.rows
 | none=>[]
noncomputable def lkOK (xs:List TableD) (s:ByteArray):Bool:=(lkF xs s).isSome
theorem lk_bad {xs:List TableD} {s:ByteArray} (h:dbOK xs=false):lkAr xs s=0∧lkRows xs s=[]∧lkOK xs s=false:=by
 simp [lkAr,lkRows,lkOK,lkF,h]
theorem lk_none {xs:List TableD} {s:ByteArray} (h:∀ i,i<xs.length→strEq (tbx xs i).nm s=false):lkAr xs s=0∧lkRows xs s=[]∧lkOK xs s=false:=by
 have:xs.find? (fun x=>strEq x.nm s)=none:=List.find?_eq_none.2 fun x hx=>by
  obtain ⟨i,hi,rfl⟩:=List.mem_iff_getElem.1 hx
  have:=h i hi
  rw [tbx_lt hi] at this
  simp [this]
 have e:lkF xs s=none:=by unfold lkF;split <;> simp [this]
 simp [lkAr,lkRows,lkOK,e]
theorem lk_at {xs:List TableD} {s:ByteArray} {k:Nat} (hd:dbOK xs=true) (hk:k<xs.length) (h:∀ i,i<k→strEq (tbx xs i).nm s=false) (h2:strEq (tbx xs k).nm s=true):lkAr xs s=(tbx xs k).ar∧lkRows xs s=(tbx xs k).rows∧lkOK xs s=true:=by
 have:xs.find? (fun x=>strEq x.nm s)=some (tbx xs k):=by
  rw [List.find?_eq_some_iff_getElem]
  refine ⟨h2,k,hk,(tbx_lt hk).symm,fun j hj=>?_⟩
  have:=h j hj
  rw [tbx_lt (by omega)] at this
  simp [this]
 have e:lkF xs s=some (tbx xs k):=by unfold lkF;rw [if_pos hd,this]
 simp [lkAr,lkRows,lkOK,e]
theorem tbl_small {xs:List TableD} (hd:dbOK xs=true) {k:Nat} (hk:k<xs.length):(tbx xs k).rows.length≤1048576∧∀ x∈(tbx xs k).rows,x.length≤1048576:=by
 obtain ⟨h1,h2,h3,h4,h5⟩:=(dbOK_out hd).2 k hk
 refine ⟨by omega,fun x hx=>?_⟩
 obtain ⟨⟨g1,g2⟩,g3,g4⟩:=validR_out h3
 obtain ⟨i,hi,rfl⟩:=List.mem_iff_getElem.1 hx
 have:=(g4 i hi).1
 rw [rx_lt hi] at this
 omega
set_option maxHeartbeats 4000000 in
theorem implLookA (xs:List TableD) (s:ByteArray) (hn:NmT xs) (hlen:xs.length≤1048576):AFn 43 [.d (dbD xs),.d (.str s)] [] (fun r os=>r=.tup [.d (relD (lkAr xs s) (lkRows xs s)),.d (.bool (lkOK xs s))]∧os=[]):=by
 refine afn_of (rv:=[.cell 4 53,.tmp 5]) tyT_ok Try.func43 rfl (by decide +kernel) Try.ntmps43 rfl (by simp) ?_
 repeat' (first | refine sq ?_ | refine stp ?_ | refine blk_o (by decide) ?_ | (apply cb;(focus (simp (disch:=(first | omega | (simp;omega))) only [go_sem,w64];try exact rfl));refine cok ?_) | (refine rgT ?_;intro K hK) | (refine dA ?_;intro K hK) | (with_reducible refine hK _ ?_;clear hK K) | (refine stq ?_;simp (disch:=(first | omega | (simp;omega))) only [go_sem,w64]) | refine as1 ?_ | fail)
 (first | refine callA (implDbA xs hn) ?_ | refine callD (implDbA xs hn) ?_ | refine callE (implDbA xs hn) ?_ | refine callF (implDbA xs hn) ?_ ?_)
 cases hd:dbOK xs with
 | false =>
  repeat' (first | refine sq ?_ | refine stp ?_ | refine blk_o (by decide) ?_ | (apply cb;(focus (simp (disch:=(first | omega | (simp;omega))) only [go_sem,w64];try exact rfl));refine cok ?_) | (refine rgT ?_;intro K hK) | (refine dA ?_;intro K hK) | (with_reducible refine hK _ ?_;clear hK K) | (refine stq ?_;simp (disch:=(first | omega | (simp;omega))) only [go_sem,w64]) | refine as1 ?_ | fail)
  obtain ⟨e1,e2,e3⟩:=lk_bad (s:=s) hd
  rw [e1,e2,e3]
  (refine endA (r:=.tup [.d (.agg [.int 0,.sl 1 []]),.d (.bool false)]) ?_)
  exact ⟨rfl,rfl⟩
 | true =>
  repeat' (first | refine sq ?_ | refine stp ?_ | refine blk_o (by decide) ?_ | (apply cb;(focus (simp (disch:=(first | omega | (simp;omega))) only [go_sem,w64,List.length_map];try exact rfl));refine cok ?_) | (refine rgT ?_;intro K hK) | (refine dA ?_;intro K hK) | (with_reducible refine hK _ ?_;clear hK K) | (refine stq ?_;simp (disch:=(first | omega | (simp;omega))) only [go_sem,w64,List.length_map]) | refine as1 ?_ | fail)
  refine awp_loopw (fun m st=>∃ k,m=xs.length - k∧k≤xs.length∧(∀ i,i<k→strEq (tbx xs i).nm s=false)∧st=mkS [(1,.d (.str s)),(2,.ptr 2 0),(4,.ptr 4 0),(5,.d (.bool false)),(11,.d (.sl 3 (xs.map tableDV))),(12,.d (.int (xs.length:Nat))),(13,.d (.int (k:Nat)))] [(2,[.d (.sl 3 (xs.map tableDV))]),(4,[.d (.int 0),.nil])]) ?_ ?_
  ·refine ⟨_,_,?_,0,rfl,Nat.zero_le _,fun i hi=>absurd hi (Nat.not_lt_zero _),rfl⟩
   exact sleA
  ·rintro m st ⟨k,rfl,hk,hin,rfl⟩
   repeat' (first | refine sq ?_ | refine stp ?_ | refine blk_o (by decide) ?_ | (apply cb;(focus (simp (disch:=(first | omega | (simp;omega))) only [go_sem,w64];try exact rfl));refine cok ?_) | (refine rgT ?_;intro K hK) | (refine dA ?_;intro K hK) | (with_reducible refine hK _ ?_;clear hK K) | (refine stq ?_;simp (disch:=(first | omega | (simp;omega))) only [go_sem,w64]) | refine as1 ?_ | fail)
   refine awp_if (p:=(k:Int)<xs.length) (by simp (disch:=(first | omega | (simp;omega))) only [go_sem,w64]) ?_ ?_ <;> intro hc
   ·have hk2:k<xs.length:=by omega
    have g0:(xs.map tableDV).getD k (.bool false)=tableDV (tbx xs k):=getDT hk2
    cases h1:strEq (tbx xs k).nm s with
    | true =>
     obtain ⟨e1,e2,e3⟩:=lk_at hd hk2 hin h1
     obtain ⟨l1,l2⟩:=tbl_small hd hk2
     rw [e1,e2,e3]
     repeat' (first | refine sq ?_ | refine stp ?_ | refine blk_o (by decide) ?_ | (apply cb;(focus (simp (disch:=(first | omega | (simp;omega))) only [go_sem,w64,g0,h1];try exact rfl));refine cok ?_) | (refine rgT ?_;intro K hK) | (refine dA ?_;intro K hK) | (with_reducible refine hK _ ?_;clear hK K) | (refine stq ?_;simp (disch:=(first | omega | (simp;omega))) only [go_sem,w64,g0,h1]) | refine as1 ?_ | fail)
     (first | refine callA (copyRelA (tbx xs k).ar (tbx xs k).rows l1 l2) ?_ | refine callD (copyRelA (tbx xs k).ar (tbx xs k).rows l1 l2) ?_ | refine callE (copyRelA (tbx xs k).ar (tbx xs k).rows l1 l2) ?_ | refine callF (copyRelA (tbx xs k).ar (tbx xs k).rows l1 l2) ?_ ?_)
     repeat' (first | refine sq ?_ | refine stp ?_ | refine blk_o (by decide) ?_ | (apply cb;(focus (simp (disch:=(first | omega | (simp;omega))) only [go_sem,w64,g0,h1];try exact rfl));refine cok ?_) | (refine rgT ?_;intro K hK) | (refine dA ?_;intro K hK) | (with_reducible refine hK _ ?_;clear hK K) | (refine stq ?_;simp (disch:=(first | omega | (simp;omega))) only [go_sem,w64,g0,h1]) | refine as1 ?_ | fail)
     (refine endA (r:=.tup [.d (relD (tbx xs k).ar (tbx xs k).rows),.d (.bool true)]) ?_)
     exact ⟨rfl,rfl⟩
    | false =>
     repeat' (first | refine sq ?_ | refine stp ?_ | refine blk_o (by decide) ?_ | (apply cb;(focus (simp (disch:=(first | omega | (simp;omega))) only [go_sem,w64,g0,h1];try exact rfl));refine cok ?_) | (refine rgT ?_;intro K hK) | (refine dA ?_;intro K hK) | (with_reducible refine hK _ ?_;clear hK K) | (refine stq ?_;simp (disch:=(first | omega | (simp;omega))) only [go_sem,w64,g0,h1]) | refine as1 ?_ | fail)
     refine ⟨xs.length - (k+1),_,by omega,?_,k+1,rfl,by omega,fun i hi=>?_,rfl⟩
     ·exact sleA
     ·by_cases e:i=k
      ·subst e;exact h1
      ·exact hin i (by omega)
   ·obtain rfl:k=xs.length:=by omega
    obtain ⟨e1,e2,e3⟩:=lk_none hin
    repeat' (first | refine sq ?_ | refine stp ?_ | refine blk_o (by decide) ?_ | (apply cb;(focus (simp (disch:=(first | omega | (simp;omega))) only [go_sem,w64];try exact rfl));refine cok ?_) | (refine rgT ?_;intro K hK) | (refine dA ?_;intro K hK) | (with_reducible refine hK _ ?_;clear hK K) | (refine stq ?_;simp (disch:=(first | omega | (simp;omega))) only [go_sem,w64]) | refine as1 ?_ | fail)
    rw [e1,e2,e3]
    (refine endA (r:=.tup [.d (.agg [.int 0,.sl 1 []]),.d (.bool false)]) ?_)
    exact ⟨rfl,rfl⟩
set_option maxHeartbeats 4000000 in
theorem specLookA (xs:List TableD) (s:ByteArray) (hn:NmT xs) (hlen:xs.length≤1048576):AFn 33 [.d (dbD xs),.d (.str s)] [] (fun r os=>r=.tup [.d (relD (lkAr xs s) (lkRows xs s)),.d (.bool (lkOK xs s))]∧os=[]):=by
 refine afn_of (rv:=[.cell 4 53,.tmp 5]) tyT_ok Try.func33 rfl (by decide +kernel) Try.ntmps33 rfl (by simp) ?_
 repeat' (first | refine sq ?_ | refine stp ?_ | refine blk_o (by decide) ?_ | (apply cb;(focus (simp (disch:=(first | omega | (simp;omega))) only [go_sem,w64];try exact rfl));refine cok ?_) | (refine rgT ?_;intro K hK) | (refine dA ?_;intro K hK) | (with_reducible refine hK _ ?_;clear hK K) | (refine stq ?_;simp (disch:=(first | omega | (simp;omega))) only [go_sem,w64]) | refine as1 ?_ | fail)
 refine awp_loopw (fun m st=>∃ k,m=xs.length - k∧k≤xs.length∧(0<k→dbOK xs=true)∧(∀ i,i<k→strEq (tbx xs i).nm s=false)∧st=mkS [(1,.d (.str s)),(2,.ptr 2 0),(4,.ptr 4 0),(5,.d (.bool false)),(6,.d (.int (k:Nat)))] [(2,[.d (.sl 3 (xs.map tableDV))]),(4,[.d (.int 0),.nil])]) ?_ ?_
 ·refine ⟨_,_,?_,0,rfl,Nat.zero_le _,fun h=>absurd h (Nat.lt_irrefl _),fun i hi=>absurd hi (Nat.not_lt_zero _),rfl⟩
  exact sleA
 ·rintro m st ⟨k,rfl,hk,hdk,hin,rfl⟩
  by_cases hc:(k:Int)<(xs.length:Nat)
  ·have hct:(k:Int)<(xs.length:Nat)↔True:=iff_of_true hc trivial
   have hk2:k<xs.length:=by omega
   have g0:(xs.map tableDV).getD k (.bool false)=tableDV (tbx xs k):=getDT hk2
   repeat' (first | refine sq ?_ | refine stp ?_ | refine blk_o (by decide) ?_ | (apply cb;(focus (simp (disch:=(first | omega | (simp;omega))) only [go_sem,w64,List.length_map,hct];try exact rfl));refine cok ?_) | (refine rgT ?_;intro K hK) | (refine dA ?_;intro K hK) | (with_reducible refine hK _ ?_;clear hK K) | (refine stq ?_;simp (disch:=(first | omega | (simp;omega))) only [go_sem,w64,List.length_map,hct]) | refine as1 ?_ | fail)
   (first | refine callA (specDbA xs hn hlen) ?_ | refine callD (specDbA xs hn hlen) ?_ | refine callE (specDbA xs hn hlen) ?_ | refine callF (specDbA xs hn hlen) ?_ ?_)
   cases hd:dbOK xs with
   | false =>
    repeat' (first | refine sq ?_ | refine stp ?_ | refine blk_o (by decide) ?_ | (apply cb;(focus (simp (disch:=(first | omega | (simp;omega))) only [go_sem,w64,List.length_map,hct];try exact rfl));refine cok ?_) | (refine rgT ?_;intro K hK) | (refine dA ?_;intro K hK) | (with_reducible refine hK _ ?_;clear hK K) | (refine stq ?_;simp (disch:=(first | omega | (simp;omega))) only [go_sem,w64,List.length_map,hct]) | refine as1 ?_ | fail)
    obtain ⟨e1,e2,e3⟩:=lk_bad (s:=s) hd
    rw [e1,e2,e3]
    (refine endA (r:=.tup [.d (.agg [.int 0,.sl 1 []]),.d (.bool false)]) ?_)
    exact ⟨rfl,rfl⟩
   | true =>
    cases h1:strEq (tbx xs k).nm s with
    | true =>
     obtain ⟨e1,e2,e3⟩:=lk_at hd hk2 hin h1
     obtain ⟨l1,l2⟩:=tbl_small hd hk2
     repeat' (first | refine sq ?_ | refine stp ?_ | refine blk_o (by decide) ?_ | (apply cb;(focus (simp (disch:=(first | omega | (simp;omega))) only [go_sem,w64,List.length_map,hct,g0,h1];try exact rfl));refine cok ?_) | (refine rgT ?_;intro K hK) | (refine dA ?_;intro K hK) | (with_reducible refine hK _ ?_;clear hK K) | (refine stq ?_;simp (disch:=(first | omega | (simp;omega))) only [go_sem,w64,List.length_map,hct,g0,h1]) | refine as1 ?_ | fail)
     (first | refine callA (l5CopyA (tbx xs k).ar (tbx xs k).rows l1 l2) ?_ | refine callD (l5CopyA (tbx xs k).ar (tbx xs k).rows l1 l2) ?_ | refine callE (l5CopyA (tbx xs k).ar (tbx xs k).rows l1 l2) ?_ | refine callF (l5CopyA (tbx xs k).ar (tbx xs k).rows l1 l2) ?_ ?_)
     repeat' (first | refine sq ?_ | refine stp ?_ | refine blk_o (by decide) ?_ | (apply cb;(focus (simp (disch:=(first | omega | (simp;omega))) only [go_sem,w64,List.length_map,hct,g0,h1];try exact rfl));refine cok ?_) | (refine rgT ?_;intro K hK) | (refine dA ?_;intro K hK) | (with_reducible refine hK _ ?_;clear hK K) | (refine stq ?_;simp (disch:=(first | omega | (simp;omega))) only [go_sem,w64,List.length_map,hct,g0,h1]) | refine as1 ?_ | fail)
     rw [e1,e2,e3]
     (refine endA (r:=.tup [.d (relD (tbx xs k).ar (tbx xs k).rows),.d (.bool true)]) ?_)
     exact ⟨rfl,rfl⟩
    | false =>
     repeat' (first | refine sq ?_ | refine stp ?_ | refine blk_o (by decide) ?_ | (apply cb;(focus (simp (disch:=(first | omega | (simp;omega))) only [go_sem,w64,List.length_map,hct,g0,h1];try exact rfl));refine cok ?_) | (refine rgT ?_;intro K hK) | (refine dA ?_;intro K hK) | (with_reducible refine hK _ ?_;clear hK K) | (refine stq ?_;simp (disch:=(first | omega | (simp;omega))) only [go_sem,w64,List.length_map,hct,g0,h1]) | refine as1 ?_ | fail)
     refine ⟨xs.length - (k+1),_,by omega,?_,k+1,rfl,by omega,fun _=>hd,fun i hi=>?_,rfl⟩
     ·exact sleA
     ·by_cases e:i=k
      ·subst e;exact h1
      ·exact hin i (by omega)
  ·have hct:(k:Int)<(xs.length:Nat)↔False:=iff_of_false hc id
   obtain rfl:k=xs.length:=by omega
   obtain ⟨e1,e2,e3⟩:=lk_none hin
   repeat' (first | refine sq ?_ | refine stp ?_ | refine blk_o (by decide) ?_ | (apply cb;(focus (simp (disch:=(first | omega | (simp;omega))) only [go_sem,w64,List.length_map,hct];try exact rfl));refine cok ?_) | (refine rgT ?_;intro K hK) | (refine dA ?_;intro K hK) | (with_reducible refine hK _ ?_;clear hK K) | (refine stq ?_;simp (disch:=(first | omega | (simp;omega))) only [go_sem,w64,List.length_map,hct]) | refine as1 ?_ | fail)
   rw [e1,e2,e3]
   (refine endA (r:=.tup [.d (.agg [.int 0,.sl 1 []]),.d (.bool false)]) ?_)
   exact ⟨rfl,rfl⟩
end Go.Proofs.Ytlpdbkhekbdceaa
namespace Go.Proofs.Ytlpdbkhekbdceaa
set_option linter.unusedSimpArgs false
set_option linter.unusedVariables false
attribute [local go_sem ↓] reduceIte
attribute [local go_sem] Nat.reduceEqDiff Nat.reduceLT Nat.reduceAdd Nat.reduceLeDiff Nat.reduceMul Nat.reduceBEq Nat.reduceSub reduceCtorEq Int.reduceLE Int.reduceNeg Int.reduceLT
open Go.RowKit
theorem getDAq {xs:List AtomD} {i:Nat} {x:DV} (h:i<xs.length):(xs.map atomDV).getD i x=atomDV (ax xs i):=by simp [List.getD,ax,h]
def AtFit (xs:List TableD) (qs:List AtomD) (i:Nat):Prop:=lkOK xs (ax qs i).nm=true∧lkAr xs (ax qs i).nm=((ax qs i).vs.length:Nat)
open Classical in
noncomputable def qfOK (nv:Int) (qs:List AtomD) (us:List Int) (xs:List TableD):Bool:=decide (qOK nv qs us=true∧dbOK xs=true∧∀ i,i<qs.length→AtFit xs qs i)
section
variable {nv:Int} {qs:List AtomD} {us:List Int} {xs:List TableD}
open Classical in
theorem qf_yes (h:qOK nv qs us=true) (h1:dbOK xs=true) (h2:∀ i,i<qs.length→AtFit xs qs i):qfOK nv qs us xs=true:=decide_eq_true ⟨h,h1,h2⟩
open Classical in
theorem qf_out (h:qfOK nv qs us xs=true):qOK nv qs us=true∧dbOK xs=true∧∀ i,i<qs.length→AtFit xs qs i:=of_decide_eq_true h
open Classical in
theorem qf_q (h:qOK nv qs us=false):qfOK nv qs us xs=false:=decide_eq_false fun g=>by rw [h] at g;cases g.1
open Classical in
theorem qf_d (h:dbOK xs=false):qfOK nv qs us xs=false:=decide_eq_false fun g=>by rw [h] at g;cases g.2.1
open Classical in
theorem qf_at {i:Nat} (hi:i<qs.length) (h:¬ AtFit xs qs i):qfOK nv qs us xs=false:=decide_eq_false fun g=>h (g.2.2 i hi)
end
section
variable (nv:Int) (qs:List AtomD) (us:List Int) (xs:List TableD) (hq:NmOK qs) (hn:NmT xs) (hlen:xs.length≤1048576) (hql:qs.length≤1048576)
include hq hn hlen hql
set_option maxHeartbeats 4000000 in
theorem implQForA:AFn 25 [.d (dbD xs),.d (queryD nv qs us)] [] (fun r os=>r=.d (.bool (qfOK nv qs us xs))∧os=[]):=by
 refine afn_of (rv:=[.tmp 4]) tyT_ok Try.func25 rfl (by decide +kernel) Try.ntmps25 rfl (by simp) ?_
 cases h1:qOK nv qs us with
 | false =>
  repeat' (first | refine sq ?_ | refine stp ?_ | refine blk_o (by decide) ?_ | (apply cb;(focus (simp (disch:=(first | omega | (simp;omega))) only [go_sem,w64,h1];try exact rfl));refine cok ?_) | (refine rgT ?_;intro K hK) | (refine dA ?_;intro K hK) | (with_reducible refine hK _ ?_;clear hK K) | (refine stq ?_;simp (disch:=(first | omega | (simp;omega))) only [go_sem,w64,h1]) | refine as1 ?_ | fail)
  (first | refine callA (implValidQA nv qs us hq) ?_ | refine callD (implValidQA nv qs us hq) ?_ | refine callE (implValidQA nv qs us hq) ?_ | refine callF (implValidQA nv qs us hq) ?_ ?_)
  repeat' (first | refine sq ?_ | refine stp ?_ | refine blk_o (by decide) ?_ | (apply cb;(focus (simp (disch:=(first | omega | (simp;omega))) only [go_sem,w64,h1];try exact rfl));refine cok ?_) | (refine rgT ?_;intro K hK) | (refine dA ?_;intro K hK) | (with_reducible refine hK _ ?_;clear hK K) | (refine stq ?_;simp (disch:=(first | omega | (simp;omega))) only [go_sem,w64,h1]) | refine as1 ?_ | fail)
  rw [qf_q h1]
  (refine endA (r:=.d (.bool false)) ?_)
  exact ⟨rfl,rfl⟩
 | true =>
  repeat' (first | refine sq ?_ | refine stp ?_ | refine blk_o (by decide) ?_ | (apply cb;(focus (simp (disch:=(first | omega | (simp;omega))) only [go_sem,w64,h1];try exact rfl));refine cok ?_) | (refine rgT ?_;intro K hK) | (refine dA ?_;intro K hK) | (with_reducible refine hK _ ?_;clear hK K) | (refine stq ?_;simp (disch:=(first | omega | (simp;omega))) only [go_sem,w64,h1]) | refine as1 ?_ | fail)
  (first | refine callA (implValidQA nv qs us hq) ?_ | refine callD (implValidQA nv qs us hq) ?_ | refine callE (implValidQA nv qs us hq) ?_ | refine callF (implValidQA nv qs us hq) ?_ ?_)
  repeat' (first | refine sq ?_ | refine stp ?_ | refine blk_o (by decide) ?_ | (apply cb;(focus (simp (disch:=(first | omega | (simp;omega))) only [go_sem,w64,h1];try exact rfl));refine cok ?_) | (refine rgT ?_;intro K hK) | (refine dA ?_;intro K hK) | (with_reducible refine hK _ ?_;clear hK K) | (refine stq ?_;simp (disch:=(first | omega | (simp;omega))) only [go_sem,w64,h1]) | refine as1 ?_ | fail)
  (first | refine callA (implDbA xs hn) ?_ | refine callD (implDbA xs hn) ?_ | refine callE (implDbA xs hn) ?_ | refine callF (implDbA xs hn) ?_ ?_)
  cases h2:dbOK xs with
  | false =>
   repeat' (first | refine sq ?_ | refine stp ?_ | refine blk_o (by decide) ?_ | (apply cb;(focus (simp (disch:=(first | omega | (simp;omega))) only [go_sem,w64,h1];try exact rfl));refine cok ?_) | (refine rgT ?_;intro K hK) | (refine dA ?_;intro K hK) | (with_reducible refine hK _ ?_;clear hK K) | (refine stq ?_;simp (disch:=(first | omega | (simp;omega))) only [go_sem,w64,h1]) | refine as1 ?_ | fail)
   rw [qf_d h2]
   (refine endA (r:=.d (.bool false)) ?_)
   exact ⟨rfl,rfl⟩
  | true =>
   repeat' (first | refine sq ?_ | refine stp ?_ | refine blk_o (by decide) ?_ | (apply cb;(focus (simp (disch:=(first | omega | (simp;omega))) only [go_sem,w64,h1,List.length_map];try exact rfl));refine cok ?_) | (refine rgT ?_;intro K hK) | (refine dA ?_;intro K hK) | (with_reducible refine hK _ ?_;clear hK K) | (refine stq ?_;simp (disch:=(first | omega | (simp;omega))) only [go_sem,w64,h1,List.length_map]) | refine as1 ?_ | fail)
   refine awp_loopw (fun m st=>∃ k,m=qs.length - k∧k≤qs.length∧(∀ i,i<k→AtFit xs qs i)∧st=mkS [(2,.ptr 2 0),(3,.ptr 3 0),(4,.d (.bool false)),(18,.d (.sl 2 (qs.map atomDV))),(19,.d (.int (qs.length:Nat))),(20,.d (.int (k:Nat)))] [(2,[.d (.sl 3 (xs.map tableDV))]),(3,[.d (.int nv),.d (.sl 2 (qs.map atomDV)),.d (intsD us)])]) ?_ ?_
   ·refine ⟨_,_,?_,0,rfl,Nat.zero_le _,fun i hi=>absurd hi (Nat.not_lt_zero _),rfl⟩
    exact sleA
   ·rintro m st ⟨k,rfl,hk,hin,rfl⟩
    repeat' (first | refine sq ?_ | refine stp ?_ | refine blk_o (by decide) ?_ | (apply cb;(focus (simp (disch:=(first | omega | (simp;omega))) only [go_sem,w64];try exact rfl));refine cok ?_) | (refine rgT ?_;intro K hK) | (refine dA ?_;intro K hK) | (with_reducible refine hK _ ?_;clear hK K) | (refine stq ?_;simp (disch:=(first | omega | (simp;omega))) only [go_sem,w64]) | refine as1 ?_ | fail)
    refine awp_if (p:=(k:Int)<qs.length) (by simp (disch:=(first | omega | (simp;omega))) only [go_sem,w64]) ?_ ?_ <;> intro hc
    ·have hk2:k<qs.length:=by omega
     have g0:(qs.map atomDV).getD k (.bool false)=atomDV (ax qs k):=getDAq hk2
     repeat' (first | refine sq ?_ | refine stp ?_ | refine blk_o (by decide) ?_ | (apply cb;(focus (simp (disch:=(first | omega | (simp;omega))) only [go_sem,w64,g0];try exact rfl));refine cok ?_) | (refine rgT ?_;intro K hK) | (refine dA ?_;intro K hK) | (with_reducible refine hK _ ?_;clear hK K) | (refine stq ?_;simp (disch:=(first | omega | (simp;omega))) only [go_sem,w64,g0]) | refine as1 ?_ | fail)
     (first | refine callA (implLookA xs (ax qs k).nm hn hlen) ?_ | refine callD (implLookA xs (ax qs k).nm hn hlen) ?_ | refine callE (implLookA xs (ax qs k).nm hn hlen) ?_ | refine callF (implLookA xs (ax qs k).nm hn hlen) ?_ ?_)
     cases h3:lkOK xs (ax qs k).nm with
     | false =>
      repeat' (first | refine sq ?_ | refine stp ?_ | refine blk_o (by decide) ?_ | (apply cb;(focus (simp (disch:=(first | omega | (simp;omega))) only [go_sem,w64,g0,h3,List.length_map];try exact rfl));refine cok ?_) | (refine rgT ?_;intro K hK) | (refine dA ?_;intro K hK) | (with_reducible refine hK _ ?_;clear hK K) | (refine stq ?_;simp (disch:=(first | omega | (simp;omega))) only [go_sem,w64,g0,h3,List.length_map]) | refine as1 ?_ | fail)
      rw [qf_at hk2 (fun g=>by have:=g.1;rw [h3] at this;cases this)]
      (refine endA (r:=.d (.bool false)) ?_)
      exact ⟨rfl,rfl⟩
     | true =>
      by_cases h4:lkAr xs (ax qs k).nm=((ax qs k).vs.length:Nat)
      ·have h4t:lkAr xs (ax qs k).nm=((ax qs k).vs.length:Nat)↔True:=iff_of_true h4 trivial
       repeat' (first | refine sq ?_ | refine stp ?_ | refine blk_o (by decide) ?_ | (apply cb;(focus (simp (disch:=(first | omega | (simp;omega))) only [go_sem,w64,g0,h3,h4t,List.length_map];try exact rfl));refine cok ?_) | (refine rgT ?_;intro K hK) | (refine dA ?_;intro K hK) | (with_reducible refine hK _ ?_;clear hK K) | (refine stq ?_;simp (disch:=(first | omega | (simp;omega))) only [go_sem,w64,g0,h3,h4t,List.length_map]) | refine as1 ?_ | fail)
       refine ⟨qs.length - (k+1),_,by omega,?_,k+1,rfl,by omega,fun i hi=>?_,rfl⟩
       ·exact sleA
       ·by_cases e:i=k
        ·subst e;exact ⟨h3,h4⟩
        ·exact hin i (by omega)
      ·have h4t:lkAr xs (ax qs k).nm=((ax qs k).vs.length:Nat)↔False:=iff_of_false h4 id
       repeat' (first | refine sq ?_ | refine stp ?_ | refine blk_o (by decide) ?_ | (apply cb;(focus (simp (disch:=(first | omega | (simp;omega))) only [go_sem,w64,g0,h3,h4t,List.length_map];try exact rfl));refine cok ?_) | (refine rgT ?_;intro K hK) | (refine dA ?_;intro K hK) | (with_reducible refine hK _ ?_;clear hK K) | (refine stq ?_;simp (disch:=(first | omega | (simp;omega))) only [go_sem,w64,g0,h3,h4t,List.length_map]) | refine as1 ?_ | fail)
       rw [qf_at hk2 (fun g=>h4 g.2)]
       (refine endA (r:=.d (.bool false)) ?_)
       exact ⟨rfl,rfl⟩
    ·obtain rfl:k=qs.length:=by omega
     repeat' (first | refine sq ?_ | refine stp ?_ | refine blk_o (by decide) ?_ | (apply cb;(focus (simp (disch:=(first | omega | (simp;omega))) only [go_sem,w64];try exact rfl));refine cok ?_) | (refine rgT ?_;intro K hK) | (refine dA ?_;intro K hK) | (with_reducible refine hK _ ?_;clear hK K) | (refine stq ?_;simp (disch:=(first | omega | (simp;omega))) only [go_sem,w64]) | refine as1 ?_ | fail)
     rw [qf_yes h1 h2 hin]
     (refine endA (r:=.d (.bool true)) ?_)
     exact ⟨rfl,rfl⟩
set_option maxHeartbeats 4000000 in
theorem specQForA:AFn 20 [.d (dbD xs),.d (queryD nv qs us)] [] (fun r os=>r=.d (.bool (qfOK nv qs us xs))∧os=[]):=by
 refine afn_of (rv:=[.tmp 4]) tyT_ok Try.func20 rfl (by decide +kernel) Try.ntmps20 rfl (by simp) ?_
 repeat' (first | refine sq ?_ | refine stp ?_ | refine blk_o (by decide) ?_ | (apply cb;(focus (simp (disch:=(first | omega | (simp;omega))) only [go_sem,w64];try exact rfl));refine cok ?_) | (refine rgT ?_;intro K hK) | (refine dA ?_;intro K hK) | (with_reducible refine hK _ ?_;clear hK K) | (refine stq ?_;simp (disch:=(first | omega | (simp;omega))) only [go_sem,w64]) | refine as1 ?_ | fail)
 refine awp_loopw (fun m st=>∃ k,m=qs.length - k∧k≤qs.length∧(∀ i,i<k→AtFit xs qs i)∧st=mkS [(2,.ptr 2 0),(3,.ptr 3 0),(4,.d (.bool false)),(5,.d (.int (k:Nat)))] [(2,[.d (.sl 3 (xs.map tableDV))]),(3,[.d (.int nv),.d (.sl 2 (qs.map atomDV)),.d (intsD us)])]) ?_ ?_
 ·refine ⟨_,_,?_,0,rfl,Nat.zero_le _,fun i hi=>absurd hi (Nat.not_lt_zero _),rfl⟩
  exact sleA
 ·rintro m st ⟨k,rfl,hk,hin,rfl⟩
  repeat' (first | refine sq ?_ | refine stp ?_ | refine blk_o (by decide) ?_ | (apply cb;(focus (simp (disch:=(first | omega | (simp;omega))) only [go_sem,w64,List.length_map];try exact rfl));refine cok ?_) | (refine rgT ?_;intro K hK) | (refine dA ?_;intro K hK) | (with_reducible refine hK _ ?_;clear hK K) | (refine stq ?_;simp (disch:=(first | omega | (simp;omega))) only [go_sem,w64,List.length_map]) | refine as1 ?_ | fail)
  refine awp_if (p:=(k:Int)<qs.length) (by simp (disch:=(first | omega | (simp;omega))) only [go_sem,w64]) ?_ ?_ <;> intro hc
  ·have hk2:k<qs.length:=by omega
   have hkt:(k:Int)<(qs.length:Nat)↔True:=iff_of_true hc trivial
   have g0:(qs.map atomDV).getD k (.bool false)=atomDV (ax qs k):=getDAq hk2
   repeat' (first | refine sq ?_ | refine stp ?_ | refine blk_o (by decide) ?_ | (apply cb;(focus (simp (disch:=(first | omega | (simp;omega))) only [go_sem,w64,g0,hkt,List.length_map];try exact rfl));refine cok ?_) | (refine rgT ?_;intro K hK) | (refine dA ?_;intro K hK) | (with_reducible refine hK _ ?_;clear hK K) | (refine stq ?_;simp (disch:=(first | omega | (simp;omega))) only [go_sem,w64,g0,hkt,List.length_map]) | refine as1 ?_ | fail)
   (first | refine callA (specLookA xs (ax qs k).nm hn hlen) ?_ | refine callD (specLookA xs (ax qs k).nm hn hlen) ?_ | refine callE (specLookA xs (ax qs k).nm hn hlen) ?_ | refine callF (specLookA xs (ax qs k).nm hn hlen) ?_ ?_)
   cases h3:lkOK xs (ax qs k).nm with
   | false =>
    repeat' (first | refine sq ?_ | refine stp ?_ | refine blk_o (by decide) ?_ | (apply cb;(focus (simp (disch:=(first | omega | (simp;omega))) only [go_sem,w64,g0,hkt,h3,List.length_map];try exact rfl));refine cok ?_) | (refine rgT ?_;intro K hK) | (refine dA ?_;intro K hK) | (with_reducible refine hK _ ?_;clear hK K) | (refine stq ?_;simp (disch:=(first | omega | (simp;omega))) only [go_sem,w64,g0,hkt,h3,List.length_map]) | refine as1 ?_ | fail)
    rw [qf_at hk2 (fun g=>by have:=g.1;rw [h3] at this;cases this)]
    (refine endA (r:=.d (.bool false)) ?_)
    exact ⟨rfl,rfl⟩
   | true =>
    by_cases h4:lkAr xs (ax qs k).nm=((ax qs k).vs.length:Nat)
    ·have h4t:lkAr xs (ax qs k).nm=((ax qs k).vs.length:Nat)↔True:=iff_of_true h4 trivial
     repeat' (first | refine sq ?_ | refine stp ?_ | refine blk_o (by decide) ?_ | (apply cb;(focus (simp (disch:=(first | omega | (simp;omega))) only [go_sem,w64,g0,hkt,h3,h4t,List.length_map];try exact rfl));refine cok ?_) | (refine rgT ?_;intro K hK) | (refine dA ?_;intro K hK) | (with_reducible refine hK _ ?_;clear hK K) | (refine stq ?_;simp (disch:=(first | omega | (simp;omega))) only [go_sem,w64,g0,hkt,h3,h4t,List.length_map]) | refine as1 ?_ | fail)
     refine ⟨qs.length - (k+1),_,by omega,?_,k+1,rfl,by omega,fun i hi=>?_,rfl⟩
     ·exact sleA
     ·by_cases e:i=k
      ·subst e;exact ⟨h3,h4⟩
      ·exact hin i (by omega)
    ·have h4t:lkAr xs (ax qs k).nm=((ax qs k).vs.length:Nat)↔False:=iff_of_false h4 id
     repeat' (first | refine sq ?_ | refine stp ?_ | refine blk_o (by decide) ?_ | (apply cb;(focus (simp (disch:=(first | omega | (simp;omega))) only [go_sem,w64,g0,hkt,h3,h4t,List.length_map];try exact rfl));refine cok ?_) | (refine rgT ?_;intro K hK) | (refine dA ?_;intro K hK) | (with_reducible refine hK _ ?_;clear hK K) | (refine stq ?_;simp (disch:=(first | omega | (simp;omega))) only [go_sem,w64,g0,hkt,h3,h4t,List.length_map]) | refine as1 ?_ | fail)
     rw [qf_at hk2 (fun g=>h4 g.2)]
     (refine endA (r:=.d (.bool false)) ?_)
     exact ⟨rfl,rfl⟩
  ·obtain rfl:k=qs.length:=by omega
   repeat' (first | refine sq ?_ | refine stp ?_ | refine blk_o (by decide) ?_ | (apply cb;(focus (simp (disch:=(first | omega | (simp;omega))) only [go_sem,w64];try exact rfl));refine cok ?_) | (refine rgT ?_;intro K hK) | (refine dA ?_;intro K hK) | (with_reducible refine hK _ ?_;clear hK K) | (refine stq ?_;simp (disch:=(first | omega | (simp;omega))) only [go_sem,w64]) | refine as1 ?_ | fail)
   (first | refine callA (specValidQA nv qs us hq) ?_ | refine callD (specValidQA nv qs us hq) ?_ | refine callE (specValidQA nv qs us hq) ?_ | refine callF (specValidQA nv qs us hq) ?_ ?_)
   cases h1:qOK nv qs us with
   | false =>
    repeat' (first | refine sq ?_ | refine stp ?_ | refine blk_o (by decide) ?_ | (apply cb;(focus (simp (disch:=(first | omega | (simp;omega))) only [go_sem,w64,h1];try exact rfl));refine cok ?_) | (refine rgT ?_;intro K hK) | (refine dA ?_;intro K hK) | (with_reducible refine hK _ ?_;clear hK K) | (refine stq ?_;simp (disch:=(first | omega | (simp;omega))) only [go_sem,w64,h1]) | refine as1 ?_ | fail)
    rw [qf_q h1]
    (refine endA (r:=.d (.bool false)) ?_)
    exact ⟨rfl,rfl⟩
   | true =>
    repeat' (first | refine sq ?_ | refine stp ?_ | refine blk_o (by decide) ?_ | (apply cb;(focus (simp (disch:=(first | omega | (simp;omega))) only [go_sem,w64,h1];try exact rfl));refine cok ?_) | (refine rgT ?_;intro K hK) | (refine dA ?_;intro K hK) | (with_reducible refine hK _ ?_;clear hK K) | (refine stq ?_;simp (disch:=(first | omega | (simp;omega))) only [go_sem,w64,h1]) | refine as1 ?_ | fail)
    (first | refine callA (specDbA xs hn hlen) ?_ | refine callD (specDbA xs hn hlen) ?_ | refine callE (specDbA xs hn hlen) ?_ | refine callF (specDbA xs hn hlen) ?_ ?_)
    cases h2:dbOK xs with
    | false =>
     repeat' (first | refine sq ?_ | refine stp ?_ | refine blk_o (by decide) ?_ | (apply cb;(focus (simp (disch:=(first | omega | (simp;omega))) only [go_sem,w64,h1];try exact rfl));refine cok ?_) | (refine rgT ?_;intro K hK) | (refine dA ?_;intro K hK) | (with_reducible refine hK _ ?_;clear hK K) | (refine stq ?_;simp (disch:=(first | omega | (simp;omega))) only [go_sem,w64,h1]) | refine as1 ?_ | fail)
     rw [qf_d h2]
     (refine endA (r:=.d (.bool false)) ?_)
     exact ⟨rfl,rfl⟩
    | true =>
     repeat' (first | refine sq ?_ | refine stp ?_ | refine blk_o (by decide) ?_ | (apply cb;(focus (simp (disch:=(first | omega | (simp;omega))) only [go_sem,w64,h1];try exact rfl));refine cok ?_) | (refine rgT ?_;intro K hK) | (refine dA ?_;intro K hK) | (with_reducible refine hK _ ?_;clear hK K) | (refine stq ?_;simp (disch:=(first | omega | (simp;omega))) only [go_sem,w64,h1]) | refine as1 ?_ | fail)
     rw [qf_yes h1 h2 hin]
     (refine endA (r:=.d (.bool true)) ?_)
     exact ⟨rfl,rfl⟩
end
end Go.Proofs.Ytlpdbkhekbdceaa
namespace Go.Proofs.Ytlpdbkhekbdceaa
set_option linter.unusedSimpArgs false
set_option linter.unusedVariables false
open Go.RowKit
theorem l7FindX (l:List Int) (v:Int) (hl:l.length≤1048576):AFn 37 [.d (intsD l),.d (.int v)] [] (fun r os=>r=.d (.int (findF l v))∧os=[]):=by
 have hr:I64 (findF l v):=by
  have:=firstIx_le (fun i=>ix l i=v) l.length
  unfold findF I64
  split <;> omega
 refine gives_afn (fnOK (by kernel_rfl)) (fun _ _=>cvInt.2 ⟨rfl,hr⟩) ?_
 rintro w G _ ⟨v1,_,rfl,h1,v2,_,rfl,h2,rfl⟩ hC
 obtain ⟨a,n,c,rfl,hI⟩:=cv_ints hC h1
 obtain ⟨rfl,_⟩:=cvInt.1 h2
 exact specFind a n c l v w hI
end Go.Proofs.Ytlpdbkhekbdceaa
namespace Go.Proofs.Ytlpdbkhekbdceaa
set_option linter.unusedSimpArgs false
set_option linter.unusedVariables false
attribute [local go_sem ↓] reduceIte
attribute [local go_sem] Nat.reduceEqDiff Nat.reduceLT Nat.reduceAdd Nat.reduceLeDiff Nat.reduceMul Nat.reduceBEq Nat.reduceSub reduceCtorEq Int.reduceLE Int.reduceNeg Int.reduceLT
open Go.RowKit
theorem indexOfX (l:List Int) (v:Int) (hl:l.length≤1048576):AFn 46 [.d (intsD l),.d (.int v)] [] (fun r os=>r=.d (.int (findF l v))∧os=[]):=by
 refine afn_of (rv:=[.tmp 4]) tyT_ok Try.func46 rfl (by decide +kernel) Try.ntmps46 rfl (by simp) ?_
 repeat' (first | refine sq ?_ | refine stp ?_ | refine blk_o (by decide) ?_ | (apply cb;(focus (simp (disch:=(first | omega | (simp;omega))) only [go_sem,w64,intsD];try exact rfl));refine cok ?_) | (refine rgT ?_;intro K hK) | (refine dA ?_;intro K hK) | (with_reducible refine hK _ ?_;clear hK K) | (refine stq ?_;simp (disch:=(first | omega | (simp;omega))) only [go_sem,w64,intsD]) | refine as1 ?_ | fail)
 refine awp_loopw (fun m s=>∃ k,m=l.length - k∧k≤l.length∧(∀ j,j<k→ix l j ≠ v)∧s=mkS [(1,.d (.int v)),(7,.d (intsD l)),(8,.d (.int (l.length:Nat))),(9,.d (.int (k:Nat)))] []) ?_ ?_
 ·refine ⟨_,_,?_,0,rfl,Nat.zero_le _,fun j h=>absurd h (Nat.not_lt_zero _),rfl⟩
  exact sleA
 ·rintro m s ⟨k,rfl,hk,hno,rfl⟩
  repeat' (first | refine sq ?_ | refine stp ?_ | refine blk_o (by decide) ?_ | (apply cb;(focus (simp (disch:=(first | omega | (simp;omega))) only [go_sem,w64,intsD];try exact rfl));refine cok ?_) | (refine rgT ?_;intro K hK) | (refine dA ?_;intro K hK) | (with_reducible refine hK _ ?_;clear hK K) | (refine stq ?_;simp (disch:=(first | omega | (simp;omega))) only [go_sem,w64,intsD]) | refine as1 ?_ | fail)
  refine awp_if (p:=(k:Int)<l.length) (by simp (disch:=(first | omega | (simp;omega))) only [go_sem,w64]) ?_ ?_ <;> intro hc
  ·have hk2:k<l.length:=by omega
   repeat' (first | refine sq ?_ | refine stp ?_ | refine blk_o (by decide) ?_ | (apply cb;(focus (simp (disch:=(first | omega | (simp;omega))) only [go_sem,w64,intsD];try exact rfl));refine cok ?_) | (refine rgT ?_;intro K hK) | (refine dA ?_;intro K hK) | (with_reducible refine hK _ ?_;clear hK K) | (refine stq ?_;simp (disch:=(first | omega | (simp;omega))) only [go_sem,w64,intsD]) | refine as1 ?_ | fail)
   refine awp_if (p:=ix l k=v) (by simp (disch:=(first | omega | (simp;omega))) only [go_sem,w64]) ?_ ?_ <;> intro hc2
   ·repeat' (first | refine sq ?_ | refine stp ?_ | refine blk_o (by decide) ?_ | (apply cb;(focus (simp (disch:=(first | omega | (simp;omega))) only [go_sem,w64];try exact rfl));refine cok ?_) | (refine rgT ?_;intro K hK) | (refine dA ?_;intro K hK) | (with_reducible refine hK _ ?_;clear hK K) | (refine stq ?_;simp (disch:=(first | omega | (simp;omega))) only [go_sem,w64]) | refine as1 ?_ | fail)
    rw [findF_eq hk2 hc2 hno]
    (refine endA (r:=.d (.int (k:Nat))) ?_)
    exact ⟨rfl,rfl⟩
   ·repeat' (first | refine sq ?_ | refine stp ?_ | refine blk_o (by decide) ?_ | (apply cb;(focus (simp (disch:=(first | omega | (simp;omega))) only [go_sem,w64];try exact rfl));refine cok ?_) | (refine rgT ?_;intro K hK) | (refine dA ?_;intro K hK) | (with_reducible refine hK _ ?_;clear hK K) | (refine stq ?_;simp (disch:=(first | omega | (simp;omega))) only [go_sem,w64]) | refine as1 ?_ | fail)
    refine ⟨l.length - (k+1),_,by omega,?_,k+1,rfl,by omega,fun j hj=>?_,rfl⟩
    ·exact sleA
    ·by_cases e:j=k
     ·subst e;exact hc2
     ·exact hno j (by omega)
  ·obtain rfl:k=l.length:=by omega
   repeat' (first | refine sq ?_ | refine stp ?_ | refine blk_o (by decide) ?_ | (apply cb;(focus (simp (disch:=(first | omega | (simp;omega))) only [go_sem,w64,intsD];try exact rfl));refine cok ?_) | (refine rgT ?_;intro K hK) | (refine dA ?_;intro K hK) | (with_reducible refine hK _ ?_;clear hK K) | (refine stq ?_;simp (disch:=(first | omega | (simp;omega))) only [go_sem,w64,intsD]) | refine as1 ?_ | fail)
   rw [findF_none hno]
   (refine endA (r:=.d (.int (-1))) ?_)
   exact ⟨rfl,rfl⟩
noncomputable def fitTo (vs row:List Int):Nat→Bool
 | 0=>true
 | k+1=>fitTo vs row k && decide (ix row (findF vs (ix vs k)).toNat=ix row k)
noncomputable def fitB (vs row:List Int):Bool:=fitTo vs row vs.length
noncomputable def rowB (vs row:List Int):List Int:=(avTo vs 5).map fun v=>ix row (findF vs v).toNat
noncomputable def bindL (vs:List Int) (rows:List (List Int)):List (List Int):=(rows.filter (fitB vs)).map (rowB vs)
theorem bindL_put {vs:List Int} {rows:List (List Int)} {k:Nat} (hk:k<rows.length) (h:fitB vs (rx rows k)=true):bindL vs (rows.take (k+1))=bindL vs (rows.take k) ++ [rowB vs (rx rows k)]:=by
 unfold bindL
 rw [rx_take hk,List.filter_append,List.map_append]
 simp [h]
theorem bindL_keep {vs:List Int} {rows:List (List Int)} {k:Nat} (hk:k<rows.length) (h:fitB vs (rx rows k)=false):bindL vs (rows.take (k+1))=bindL vs (rows.take k):=by
 unfold bindL
 rw [rx_take hk,List.filter_append,List.map_append]
 simp [h]
noncomputable def valTo (vs row:List Int):Nat→List Int
 | 0=>[0,0,0,0,0]
 | k+1=>(valTo vs row k).set (ix vs k).toNat (ix row k)
theorem valTo_len (vs row:List Int) (k:Nat):(valTo vs row k).length=5:=by
 induction k with
 | zero=>rfl
 | succ k ih=>simp [valTo,ih]
theorem fitTo_at {vs row:List Int} {n:Nat} (h:fitTo vs row n=true):∀ k,k<n→ix row (findF vs (ix vs k)).toNat=ix row k:=by
 induction n with
 | zero=>intro k hk;omega
 | succ n ih =>
  simp only [fitTo,Bool.and_eq_true,decide_eq_true_eq] at h
  intro k hk
  by_cases e:k=n
  ·subst e;exact h.2
  ·exact ih h.1 k (by omega)
theorem ix_setS {l:List Int} {a:Nat} {x:Int} (h:a<l.length):ix (l.set a x) a=x:=by simp [ix,h]
theorem ix_setN {l:List Int} {a b:Nat} {x:Int} (h:a ≠ b):ix (l.set a x) b=ix l b:=by simp [ix,List.getD,List.getElem?_set_ne h]
theorem valTo_at {vs row:List Int} (hv:∀ k,k<vs.length→0≤ix vs k∧ix vs k≤4) {n:Nat} (hn:n≤vs.length) (h:fitTo vs row n=true) {j:Nat} (hj:j<n):ix (valTo vs row n) (ix vs j).toNat=ix row (findF vs (ix vs j)).toNat:=by
 induction n with
 | zero=>omega
 | succ n ih =>
  have h5:=valTo_len vs row n
  have hvn:=hv n (by omega)
  have hat:=fitTo_at h n (by omega)
  simp only [fitTo,Bool.and_eq_true,decide_eq_true_eq] at h
  by_cases e:ix vs j=ix vs n
  ·rw [e,hat]
   exact ix_setS (by rw [h5];omega)
  ·have hjn:j ≠ n:=fun x=>e (by rw [x])
   have hvj:=hv j (by omega)
   rw [← ih (by omega) h.1 (by omega)]
   exact ix_setN (by omega)
theorem findF_at {vs:List Int} {v:Int} (h:occ vs v=true):0≤findF vs v∧(findF vs v).toNat<vs.length∧ix vs (findF vs v).toNat=v:=by
 have h0:0≤findF vs v:=of_decide_eq_true h
 obtain ⟨i,hi,he⟩:∃ i,i<vs.length∧ix vs i=v:=by
  by_cases c:∃ i,i<vs.length∧ix vs i=v
  ·exact c
  ·have:=findF_none (xs:=vs) (v:=v) (fun i hi e=>c ⟨i,hi,e⟩)
   omega
 have key:∀ n,(∃ i,i<n∧i<vs.length∧ix vs i=v)→∃ i,i<vs.length∧ix vs i=v∧∀ j,j<i→ix vs j ≠ v:=by
  intro n
  induction n with
  | zero=>rintro ⟨i,h,_⟩;omega
  | succ n ih =>
   rintro ⟨i,h1,h2,h3⟩
   by_cases c:∃ j,j<n∧j<vs.length∧ix vs j=v
   ·exact ih c
   ·exact ⟨i,h2,h3,fun j hj e=>c ⟨j,by omega,by omega,e⟩⟩
 obtain ⟨m,h1,h2,h3⟩:=key (i+1) ⟨i,by omega,hi,he⟩
 rw [findF_eq h1 h2 h3]
 exact ⟨by omega,by simpa using h1,by simpa using h2⟩
theorem avTo_rng {vs:List Int} {k:Nat}:∀ v∈avTo vs k,0≤v∧v<k∧occ vs v=true:=by
 induction k with
 | zero=>intro v hv;simp [avTo] at hv
 | succ k ih =>
  intro v hv
  simp only [avTo] at hv
  split at hv
  ·rcases List.mem_append.1 hv with h | h
   ·have:=ih v h;exact ⟨this.1,by omega,this.2.2⟩
   ·rename_i ho
    obtain rfl:v=(k:Int):=by simpa using h
    exact ⟨by omega,by omega,ho⟩
  ·have:=ih v hv;exact ⟨this.1,by omega,this.2.2⟩
theorem rowB_val {vs row:List Int} (hv:∀ k,k<vs.length→0≤ix vs k∧ix vs k≤4) (h:fitB vs row=true):pickL (avTo vs 5) (valTo vs row vs.length)=rowB vs row:=by
 unfold pickL rowB
 refine List.map_congr_left fun v hm=>?_
 obtain ⟨h1,h2,h3⟩:=avTo_rng v hm
 obtain ⟨g1,g2,g3⟩:=findF_at h3
 have:=valTo_at hv (Nat.le_refl _) h g2
 rw [g3] at this
 exact this
end Go.Proofs.Ytlpdbkhekbdceaa
namespace Go.Proofs.Ytlpdbkhekbdceaa
set_option linter.unusedSimpArgs false
set_option linter.unusedVariables false
attribute [local go_sem ↓] reduceIte
attribute [local go_sem] Nat.reduceEqDiff Nat.reduceLT Nat.reduceAdd Nat.reduceLeDiff Nat.reduceMul Nat.reduceBEq Nat.reduceSub reduceCtorEq Int.reduceLE Int.reduceNeg Int.reduceLT
open Go.RowKit
structure BindOK (xs:List TableD) (x:AtomD):Prop where
 ok:lkOK xs x.nm=true
 ar:lkAr xs x.nm=(x.vs.length:Nat)
 fit:colsFit 5 x.vs=true
 rl:(lkRows xs x.nm).length≤16
 rk:∀ k,k<(lkRows xs x.nm).length→(rx (lkRows xs x.nm) k).length=x.vs.length∧valB (rx (lkRows xs x.nm) k)=true
 nb:x.nm.size≤9223372036854775807
theorem occ_ix {l:List Int} {v:Int}:∀ i,i<l.length→ix l i=v→occ l v=true:=by
 intro i
 induction i using Nat.strongRecOn with
 | ind i ih =>
  intro hi h
  by_cases c:∃ j,j<i∧ix l j=v
  ·obtain ⟨j,hj,e⟩:=c
   exact ih j hj (by omega) e
  ·exact occ_at hi h (fun j hj e=>c ⟨j,hj,e⟩)
theorem ix_memD {l:List Int} {i:Nat} (h:i<l.length):ix l i∈l:=by rw [ix_lt h];exact List.getElem_mem _
theorem rowB_len (vs row:List Int):(rowB vs row).length=(avTo vs 5).length:=by simp [rowB]
theorem bindL_len (vs:List Int) (rows:List (List Int)):(bindL vs rows).length≤rows.length:=by
 simp only [bindL,List.length_map];exact List.length_filter_le _ _
theorem bindL_same (vs:List Int) (rows:List (List Int)):SameL (avTo vs 5).length (bindL vs rows):=fun y hy=>by
 obtain ⟨r,_,rfl⟩:=List.mem_map.1 hy
 exact rowB_len vs r
set_option maxHeartbeats 4000000 in
theorem implBindA (xs:List TableD) (x:AtomD) (hn:NmT xs) (hlen:xs.length≤1048576) (hb:BindOK xs x):AFn 26 [.d (dbD xs),.d (atomDV x)] [] (fun r os=>r=.d (relD ((avTo x.vs 5).length:Nat) (srt (bindL x.vs (lkRows xs x.nm))))∧os=[]):=by
 suffices h:AFn 26 [.d (dbD xs),.d (atomDV x)] [] (fun r os=>r=.d (.agg [.int ((avTo x.vs 5).length:Nat),rowsV (srt (bindL x.vs (lkRows xs x.nm)))])∧os=[]) from
  afn_weak h fun r os ⟨h1,h2⟩=>⟨_,by rw [h1];exact .dd (dle_agg (.cons (dle_refl _) (.cons (dle_rowsV _) .nil))),rfl,h2⟩
 refine afn_of (rv:=[.cell 4 53]) tyT_ok Try.func26 rfl (by decide +kernel) Try.ntmps26 rfl (by simp) ?_
 obtain ⟨hok,har,hfit,hrl,hrk,hnb⟩:=hb
 obtain ⟨hv5,hvr⟩:=fit_yes hfit
 have hart:lkAr xs x.nm=(x.vs.length:Nat)↔True:=iff_of_true har trivial
 obtain ⟨rows,hrows⟩:∃ r,lkRows xs x.nm=r:=⟨_,rfl⟩
 rw [hrows] at hrl hrk ⊢
 have hav:∀ v∈avTo x.vs 5,0≤v∧v<5∧occ x.vs v=true:=avTo_rng
 have havl:(avTo x.vs 5).length≤5:=avTo_len x.vs 5
 repeat' (first | refine sq ?_ | refine stp ?_ | refine blk_o (by decide) ?_ | (apply cb;(focus (simp (disch:=(first | omega | (simp;omega))) only [go_sem,w64];try exact rfl));refine cok ?_) | (refine rgT ?_;intro K hK) | (refine dA ?_;intro K hK) | (with_reducible refine hK _ ?_;clear hK K) | (refine stq ?_;simp (disch:=(first | omega | (simp;omega))) only [go_sem,w64]) | refine as1 ?_ | fail)
 (first | refine callA (implVarsA x) ?_ | refine callD (implVarsA x) ?_ | refine callE (implVarsA x) ?_ | refine callF (implVarsA x) ?_ ?_)
 repeat' (first | refine sq ?_ | refine stp ?_ | refine blk_o (by decide) ?_ | (apply cb;(focus (simp (disch:=(first | omega | (simp;omega))) only [go_sem,w64,intsD];try exact rfl));refine cok ?_) | (refine rgT ?_;intro K hK) | (refine dA ?_;intro K hK) | (with_reducible refine hK _ ?_;clear hK K) | (refine stq ?_;simp (disch:=(first | omega | (simp;omega))) only [go_sem,w64,intsD]) | refine as1 ?_ | fail)
 (first | refine callA (implLookA xs x.nm hn hlen) ?_ | refine callD (implLookA xs x.nm hn hlen) ?_ | refine callE (implLookA xs x.nm hn hlen) ?_ | refine callF (implLookA xs x.nm hn hlen) ?_ ?_)
 rw [hok,hrows]
 repeat' (first | refine sq ?_ | refine stp ?_ | refine blk_o (by decide) ?_ | (apply cb;(focus (simp (disch:=(first | omega | (simp;omega))) only [go_sem,w64,intsD,hart];try exact rfl));refine cok ?_) | (refine rgT ?_;intro K hK) | (refine dA ?_;intro K hK) | (with_reducible refine hK _ ?_;clear hK K) | (refine stq ?_;simp (disch:=(first | omega | (simp;omega))) only [go_sem,w64,intsD,hart]) | refine as1 ?_ | fail)
 (first | refine callA (implFitA 5 x.vs (by omega) (by omega) (by omega)) ?_ | refine callD (implFitA 5 x.vs (by omega) (by omega) (by omega)) ?_ | refine callE (implFitA 5 x.vs (by omega) (by omega) (by omega)) ?_ | refine callF (implFitA 5 x.vs (by omega) (by omega) (by omega)) ?_ ?_)
 rw [hfit]
 repeat' (first | refine sq ?_ | refine stp ?_ | refine blk_o (by decide) ?_ | (apply cb;(focus (simp (disch:=(first | omega | (simp;omega))) only [go_sem,w64,intsD,hart];try exact rfl));refine cok ?_) | (refine rgT ?_;intro K hK) | (refine dA ?_;intro K hK) | (with_reducible refine hK _ ?_;clear hK K) | (refine stq ?_;simp (disch:=(first | omega | (simp;omega))) only [go_sem,w64,intsD,hart]) | refine as1 ?_ | fail)
 refine awp_nilbuf 9 9 26 1 (by simp (disch:=(first | omega | (simp;omega))) only [go_sem,w64]) ?_
 refine awp_loopw (fun m s=>∃ k,m=rows.length - k∧k≤rows.length∧s=mkS [(3,.ptr 3 0),(4,.ptr 4 0),(5,.d (intsD (avTo x.vs 5))),(6,.ptr 6 0),(9,.buf 9 26 1 ((bindL x.vs (rows.take k)).map intsD)),(47,.d (rowsD rows)),(48,.d (.int (rows.length:Nat))),(49,.d (.int (k:Nat)))] [(3,[.d (.str x.nm),.d (intsD x.vs)]),(4,[.d (.int 0),.nil]),(6,[.d (.int ((avTo x.vs 5).length:Nat)),.d (.sl 1 [])])]) ?_ ?_
 ·refine ⟨_,_,?_,0,rfl,Nat.zero_le _,rfl⟩
  exact sleA
 ·rintro m s ⟨k,rfl,hk,rfl⟩
  repeat' (first | refine sq ?_ | refine stp ?_ | refine blk_o (by decide) ?_ | (apply cb;(focus (simp (disch:=(first | omega | (simp;omega))) only [go_sem,w64,rowsD];try exact rfl));refine cok ?_) | (refine rgT ?_;intro K hK) | (refine dA ?_;intro K hK) | (with_reducible refine hK _ ?_;clear hK K) | (refine stq ?_;simp (disch:=(first | omega | (simp;omega))) only [go_sem,w64,rowsD]) | refine as1 ?_ | fail)
  refine awp_if (p:=(k:Int)<rows.length) (by simp (disch:=(first | omega | (simp;omega))) only [go_sem,w64]) ?_ ?_ <;> intro hc
  ·have hk2:k<rows.length:=by omega
   have g0:(rows.map intsD).getD k (.bool false)=intsD (rx rows k):=getDR hk2
   obtain ⟨hrl1,hrv⟩:=hrk k hk2
   obtain ⟨row,hrow⟩:∃ r,rx rows k=r:=⟨_,rfl⟩
   rw [hrow] at hrl1 hrv g0
   repeat' (first | refine sq ?_ | refine stp ?_ | refine blk_o (by decide) ?_ | (apply cb;(focus (simp (disch:=(first | omega | (simp;omega))) only [go_sem,w64,rowsD,g0];try exact rfl));refine cok ?_) | (refine rgT ?_;intro K hK) | (refine dA ?_;intro K hK) | (with_reducible refine hK _ ?_;clear hK K) | (refine stq ?_;simp (disch:=(first | omega | (simp;omega))) only [go_sem,w64,rowsD,g0]) | refine as1 ?_ | fail)
   refine awp_loopw (fun m s=>∃ i,m=x.vs.length - i∧i≤x.vs.length∧s=mkS [(3,.ptr 3 0),(4,.ptr 4 0),(5,.d (intsD (avTo x.vs 5))),(6,.ptr 6 0),(9,.buf 9 26 1 ((bindL x.vs (rows.take k)).map intsD)),(11,.d (intsD row)),(12,.arr 53 1 5),(13,.d (.bool (fitTo x.vs row i))),(47,.d (rowsD rows)),(48,.d (.int (rows.length:Nat))),(49,.d (.int (k:Nat))),(55,.d (intsD x.vs)),(56,.d (.int (x.vs.length:Nat))),(57,.d (.int (i:Nat)))] [(3,[.d (.str x.nm),.d (intsD x.vs)]),(4,[.d (.int 0),.nil]),(6,[.d (.int ((avTo x.vs 5).length:Nat)),.d (.sl 1 [])]),(53,((valTo x.vs row i).map DV.int).map AV.d)]) ?_ ?_
   ·refine ⟨_,_,?_,0,rfl,Nat.zero_le _,rfl⟩
    (refine sle_mk ?_ ?_ <;> simp (disch:=(first | omega | (simp;omega))) only [go_sem,w64,valTo,fitTo] <;> exact leafs)
   ·rintro m s ⟨i,rfl,hi,rfl⟩
    repeat' (first | refine sq ?_ | refine stp ?_ | refine blk_o (by decide) ?_ | (apply cb;(focus (simp (disch:=(first | omega | (simp;omega))) only [go_sem,w64,rowsD,intsD];try exact rfl));refine cok ?_) | (refine rgT ?_;intro K hK) | (refine dA ?_;intro K hK) | (with_reducible refine hK _ ?_;clear hK K) | (refine stq ?_;simp (disch:=(first | omega | (simp;omega))) only [go_sem,w64,rowsD,intsD]) | refine as1 ?_ | fail)
    refine awp_if (p:=(i:Int)<x.vs.length) (by simp (disch:=(first | omega | (simp;omega))) only [go_sem,w64]) ?_ ?_ <;> intro hc2
    ·have hi2:i<x.vs.length:=by omega
     have hvi:=hvr i hi2
     obtain ⟨f1,f2,f3⟩:=findF_at (vs:=x.vs) (v:=ix x.vs i) (occ_ix i hi2 rfl)
     have f1t:0≤findF x.vs (ix x.vs i)↔True:=iff_of_true f1 trivial
     have f2t:findF x.vs (ix x.vs i)<((row.length:Nat):Int)↔True:=iff_of_true (by omega) trivial
     have f3:(findF x.vs (ix x.vs i)).toNat<row.length:=by omega
     have i1t:(i:Int)<((row.length:Nat):Int)↔True:=iff_of_true (by omega) trivial
     have i3:i<row.length:=by omega
     have hbl:=valTo_len x.vs row i
     have c1:0≤ix x.vs i↔True:=iff_of_true hvi.1 trivial
     have c2:ix x.vs i<5↔True:=iff_of_true (by omega) trivial
     have c3:(ix x.vs i).toNat<(valTo x.vs row i).length:=by omega
     cases ht:fitTo x.vs row i with
     | true =>
      by_cases he:ix row (findF x.vs (ix x.vs i)).toNat=ix row i
      ·have het:ix row (findF x.vs (ix x.vs i)).toNat=ix row i↔True:=iff_of_true he trivial
       have hf:fitTo x.vs row (i+1)=true:=by simp [fitTo,ht,he]
       repeat' (first | refine sq ?_ | refine stp ?_ | refine blk_o (by decide) ?_ | (apply cb;(focus (simp (disch:=(first | omega | (simp;omega))) only [go_sem,w64,rowsD,intsD,f1t,f2t,i1t,c1,c2,het];try exact rfl));refine cok ?_) | (refine rgT ?_;intro K hK) | (refine dA ?_;intro K hK) | (with_reducible refine hK _ ?_;clear hK K) | (refine stq ?_;simp (disch:=(first | omega | (simp;omega))) only [go_sem,w64,rowsD,intsD,f1t,f2t,i1t,c1,c2,het]) | refine as1 ?_ | fail)
       (first | refine callA (indexOfX x.vs (ix x.vs i) (by omega)) ?_ | refine callD (indexOfX x.vs (ix x.vs i) (by omega)) ?_ | refine callE (indexOfX x.vs (ix x.vs i) (by omega)) ?_ | refine callF (indexOfX x.vs (ix x.vs i) (by omega)) ?_ ?_)
       repeat' (first | refine sq ?_ | refine stp ?_ | refine blk_o (by decide) ?_ | (apply cb;(focus (simp (disch:=(first | omega | (simp;omega))) only [go_sem,w64,rowsD,intsD,f1t,f2t,i1t,c1,c2,het];try exact rfl));refine cok ?_) | (refine rgT ?_;intro K hK) | (refine dA ?_;intro K hK) | (with_reducible refine hK _ ?_;clear hK K) | (refine stq ?_;simp (disch:=(first | omega | (simp;omega))) only [go_sem,w64,rowsD,intsD,f1t,f2t,i1t,c1,c2,het]) | refine as1 ?_ | fail)
       refine ⟨x.vs.length - (i+1),_,by omega,?_,i+1,rfl,by omega,rfl⟩
       rw [hf]
       simp only [valTo]
       exact sleA
      ·have het:ix row (findF x.vs (ix x.vs i)).toNat=ix row i↔False:=iff_of_false he id
       have hf:fitTo x.vs row (i+1)=false:=by simp [fitTo,ht,he]
       repeat' (first | refine sq ?_ | refine stp ?_ | refine blk_o (by decide) ?_ | (apply cb;(focus (simp (disch:=(first | omega | (simp;omega))) only [go_sem,w64,rowsD,intsD,f1t,f2t,i1t,c1,c2,het];try exact rfl));refine cok ?_) | (refine rgT ?_;intro K hK) | (refine dA ?_;intro K hK) | (with_reducible refine hK _ ?_;clear hK K) | (refine stq ?_;simp (disch:=(first | omega | (simp;omega))) only [go_sem,w64,rowsD,intsD,f1t,f2t,i1t,c1,c2,het]) | refine as1 ?_ | fail)
       (first | refine callA (indexOfX x.vs (ix x.vs i) (by omega)) ?_ | refine callD (indexOfX x.vs (ix x.vs i) (by omega)) ?_ | refine callE (indexOfX x.vs (ix x.vs i) (by omega)) ?_ | refine callF (indexOfX x.vs (ix x.vs i) (by omega)) ?_ ?_)
       repeat' (first | refine sq ?_ | refine stp ?_ | refine blk_o (by decide) ?_ | (apply cb;(focus (simp (disch:=(first | omega | (simp;omega))) only [go_sem,w64,rowsD,intsD,f1t,f2t,i1t,c1,c2,het];try exact rfl));refine cok ?_) | (refine rgT ?_;intro K hK) | (refine dA ?_;intro K hK) | (with_reducible refine hK _ ?_;clear hK K) | (refine stq ?_;simp (disch:=(first | omega | (simp;omega))) only [go_sem,w64,rowsD,intsD,f1t,f2t,i1t,c1,c2,het]) | refine as1 ?_ | fail)
       refine ⟨x.vs.length - (i+1),_,by omega,?_,i+1,rfl,by omega,rfl⟩
       rw [hf]
       simp only [valTo]
       exact sleA
     | false =>
      have hf:fitTo x.vs row (i+1)=false:=by simp [fitTo,ht]
      repeat' (first | refine sq ?_ | refine stp ?_ | refine blk_o (by decide) ?_ | (apply cb;(focus (simp (disch:=(first | omega | (simp;omega))) only [go_sem,w64,rowsD,intsD,f1t,f2t,i1t,c1,c2];try exact rfl));refine cok ?_) | (refine rgT ?_;intro K hK) | (refine dA ?_;intro K hK) | (with_reducible refine hK _ ?_;clear hK K) | (refine stq ?_;simp (disch:=(first | omega | (simp;omega))) only [go_sem,w64,rowsD,intsD,f1t,f2t,i1t,c1,c2]) | refine as1 ?_ | fail)
      (first | refine callA (indexOfX x.vs (ix x.vs i) (by omega)) ?_ | refine callD (indexOfX x.vs (ix x.vs i) (by omega)) ?_ | refine callE (indexOfX x.vs (ix x.vs i) (by omega)) ?_ | refine callF (indexOfX x.vs (ix x.vs i) (by omega)) ?_ ?_)
      repeat' (first | refine sq ?_ | refine stp ?_ | refine blk_o (by decide) ?_ | (apply cb;(focus (simp (disch:=(first | omega | (simp;omega))) only [go_sem,w64,rowsD,intsD,f1t,f2t,i1t,c1,c2];try exact rfl));refine cok ?_) | (refine rgT ?_;intro K hK) | (refine dA ?_;intro K hK) | (with_reducible refine hK _ ?_;clear hK K) | (refine stq ?_;simp (disch:=(first | omega | (simp;omega))) only [go_sem,w64,rowsD,intsD,f1t,f2t,i1t,c1,c2]) | refine as1 ?_ | fail)
      refine ⟨x.vs.length - (i+1),_,by omega,?_,i+1,rfl,by omega,rfl⟩
      rw [hf]
      simp only [valTo]
      exact sleA
    ·obtain rfl:i=x.vs.length:=by omega
     have hbl:=valTo_len x.vs row x.vs.length
     cases ht:fitB x.vs row with
     | true =>
      have ht':fitTo x.vs row x.vs.length=true:=ht
      have hbuf:(bindL x.vs (rows.take k)).length≤16777215↔True:=iff_of_true (by have:=bindL_len x.vs (rows.take k);simp at this;omega) trivial
      refine awp_freeze 53 1 ((valTo x.vs row x.vs.length).map DV.int) (by simp (disch:=(first | omega | (simp;omega))) only [go_sem,w64];simp [flatD_int]) (elems_int _) (by decide) ?_
      repeat' (first | refine sq ?_ | refine stp ?_ | refine blk_o (by decide) ?_ | (apply cb;(focus (simp (disch:=(first | omega | (simp;omega))) only [go_sem,w64,hbl,List.length_map,ht'];try exact rfl));refine cok ?_) | (refine rgT ?_;intro K hK) | (refine dA ?_;intro K hK) | (with_reducible refine hK _ ?_;clear hK K) | (refine stq ?_;simp (disch:=(first | omega | (simp;omega))) only [go_sem,w64,hbl,List.length_map,ht']) | refine as1 ?_ | fail)
      (first | refine callA (implPickA (valTo x.vs row x.vs.length) (avTo x.vs 5) (by omega) (fun i hi=>by have:=hav _ (ix_memD hi);omega)) ?_ | refine callD (implPickA (valTo x.vs row x.vs.length) (avTo x.vs 5) (by omega) (fun i hi=>by have:=hav _ (ix_memD hi);omega)) ?_ | refine callE (implPickA (valTo x.vs row x.vs.length) (avTo x.vs 5) (by omega) (fun i hi=>by have:=hav _ (ix_memD hi);omega)) ?_ | refine callF (implPickA (valTo x.vs row x.vs.length) (avTo x.vs 5) (by omega) (fun i hi=>by have:=hav _ (ix_memD hi);omega)) ?_ ?_)
      rw [rowB_val (fun k hk=>by have:=hvr k hk;omega) ht]
      repeat' (first | refine sq ?_ | refine stp ?_ | refine blk_o (by decide) ?_ | (apply cb;(focus (simp (disch:=(first | omega | (simp;omega))) only [go_sem,w64,hbl,List.length_map,ht',hbuf];try exact rfl));refine cok ?_) | (refine rgT ?_;intro K hK) | (refine dA ?_;intro K hK) | (with_reducible refine hK _ ?_;clear hK K) | (refine stq ?_;simp (disch:=(first | omega | (simp;omega))) only [go_sem,w64,hbl,List.length_map,ht',hbuf]) | refine as1 ?_ | fail)
      refine ⟨rows.length - (k+1),_,by omega,?_,k+1,rfl,by omega,rfl⟩
      rw [bindL_put hk2 (by rw [hrow];exact ht),hrow,map_snoc]
      exact sleA
     | false =>
      have ht':fitTo x.vs row x.vs.length=false:=ht
      repeat' (first | refine sq ?_ | refine stp ?_ | refine blk_o (by decide) ?_ | (apply cb;(focus (simp (disch:=(first | omega | (simp;omega))) only [go_sem,w64,hbl,List.length_map,ht'];try exact rfl));refine cok ?_) | (refine rgT ?_;intro K hK) | (refine dA ?_;intro K hK) | (with_reducible refine hK _ ?_;clear hK K) | (refine stq ?_;simp (disch:=(first | omega | (simp;omega))) only [go_sem,w64,hbl,List.length_map,ht']) | refine as1 ?_ | fail)
      refine ⟨rows.length - (k+1),_,by omega,?_,k+1,rfl,by omega,rfl⟩
      rw [bindL_keep hk2 (by rw [hrow];exact ht)]
      exact sleA
  ·obtain rfl:k=rows.length:=by omega
   rw [List.take_length]
   repeat' (first | refine sq ?_ | refine stp ?_ | refine blk_o (by decide) ?_ | (apply cb;(focus (simp (disch:=(first | omega | (simp;omega))) only [go_sem,w64];try exact rfl));refine cok ?_) | (refine rgT ?_;intro K hK) | (refine dA ?_;intro K hK) | (with_reducible refine hK _ ?_;clear hK K) | (refine stq ?_;simp (disch:=(first | omega | (simp;omega))) only [go_sem,w64]) | refine as1 ?_ | fail)
   (first | refine callA (sortedA (avTo x.vs 5).length (by omega) _ (bindL x.vs rows) (Nat.le_refl _) (by have:=bindL_len x.vs rows;omega) (bindL_same x.vs rows)) ?_ | refine callD (sortedA (avTo x.vs 5).length (by omega) _ (bindL x.vs rows) (Nat.le_refl _) (by have:=bindL_len x.vs rows;omega) (bindL_same x.vs rows)) ?_ | refine callE (sortedA (avTo x.vs 5).length (by omega) _ (bindL x.vs rows) (Nat.le_refl _) (by have:=bindL_len x.vs rows;omega) (bindL_same x.vs rows)) ?_ | refine callF (sortedA (avTo x.vs 5).length (by omega) _ (bindL x.vs rows) (Nat.le_refl _) (by have:=bindL_len x.vs rows;omega) (bindL_same x.vs rows)) ?_ ?_)
   repeat' (first | refine sq ?_ | refine stp ?_ | refine blk_o (by decide) ?_ | (apply cb;(focus (simp (disch:=(first | omega | (simp;omega))) only [go_sem,w64];try exact rfl));refine cok ?_) | (refine rgT ?_;intro K hK) | (refine dA ?_;intro K hK) | (with_reducible refine hK _ ?_;clear hK K) | (refine stq ?_;simp (disch:=(first | omega | (simp;omega))) only [go_sem,w64]) | refine as1 ?_ | fail)
   (refine endA (r:=.d (.agg [.int ((avTo x.vs 5).length:Nat),rowsV (srt (bindL x.vs rows))])) ?_)
   exact ⟨rfl,rfl⟩
end Go.Proofs.Ytlpdbkhekbdceaa
