/- Lemmas for the proof of FnIteration, part 18 of 22: no condition of their own. -/
import Derived.Test.YtfobmfngbfbfdaaJ17
import Derived.Test.YtfobmfngbfbfdaaJ16
namespace Go.Proofs.Ytfobmfngbfbfdaa
set_option linter.unusedSimpArgs false
set_option linter.unusedVariables false
attribute [local go_sem ↓] reduceIte
attribute [local go_sem] Nat.reduceEqDiff Nat.reduceLT Nat.reduceAdd Nat.reduceLeDiff Nat.reduceMul Nat.reduceBEq Nat.reduceSub reduceCtorEq Int.reduceLE Int.reduceNeg Int.reduceLT
open Go.RowKit
theorem specNewRelS (ar:Int) (rows:List (List Int)) (hl:rows.length≤1048576) (har:ar≤1048576):AFn 69 [.d (.int ar),.d (rowsD rows)] [] (fun r os=>∃ x,isRel 0 (nrAr ar rows) (nrRows ar rows) x∧r=.tup [x,.d (.bool (nrOK ar rows))]∧os=[]):=by
 refine afn_of (rv:=[.cell 4 49,.tmp 5]) tyS_ok Try.func69 rfl (by decide +kernel) Try.ntmps69 rfl (by simp) ?_
 repeat' (first | refine sq ?_ | refine stp ?_ | refine blk_o (by decide) ?_ | (apply cb;(focus (simp (disch:=(first | omega | (simp;omega))) only [go_sem,w64];try exact rfl));refine cok ?_) | (refine rgW ?_;intro K hK) | (refine dA ?_;intro K hK) | (with_reducible refine hK _ ?_;clear hK K) | (refine stq ?_;simp (disch:=(first | omega | (simp;omega))) only [go_sem,w64]) | refine as1 ?_ | fail)
 refine awp_loopw (fun m s=>∃ k,m=rows.length - k∧k≤rows.length∧(∀ i,i<k→((rx rows i).length:Int)=ar∧valB (rx rows i)=true)∧s=mkS [(0,.d (.int ar)),(1,.d (rowsD rows)),(4,.ptr 4 0),(6,.d (.int (k:Nat)))] [(4,[.d (.int 0),.nil])]) ?_ ?_
 ·refine ⟨_,_,?_,0,rfl,Nat.zero_le _,fun i hi=>absurd hi (Nat.not_lt_zero _),rfl⟩
  exact sleA
 ·rintro m s ⟨k,rfl,hk,hin,rfl⟩
  repeat' (first | refine sq ?_ | refine stp ?_ | refine blk_o (by decide) ?_ | (apply cb;(focus (simp (disch:=(first | omega | (simp;omega))) only [go_sem,w64];try exact rfl));refine cok ?_) | (refine rgW ?_;intro K hK) | (refine dA ?_;intro K hK) | (with_reducible refine hK _ ?_;clear hK K) | (refine stq ?_;simp (disch:=(first | omega | (simp;omega))) only [go_sem,w64]) | refine as1 ?_ | fail)
  refine awp_if (p:=(k:Int)<rows.length) (by simp (disch:=(first | omega | (simp;omega))) only [go_sem,w64]) ?_ ?_ <;> intro hc
  ·have hk2:k<rows.length:=by omega
   have g0:(rows.map intsD).getD k (.bool false)=intsD (rx rows k):=getDR hk2
   by_cases h1:((rx rows k).length:Int)=ar
   ·have h1t:((rx rows k).length:Int)=ar↔True:=iff_of_true h1 trivial
    repeat' (first | refine sq ?_ | refine stp ?_ | refine blk_o (by decide) ?_ | (apply cb;(focus (simp (disch:=(first | omega | (simp;omega))) only [go_sem,w64,g0,h1t];try exact rfl));refine cok ?_) | (refine rgW ?_;intro K hK) | (refine dA ?_;intro K hK) | (with_reducible refine hK _ ?_;clear hK K) | (refine stq ?_;simp (disch:=(first | omega | (simp;omega))) only [go_sem,w64,g0,h1t]) | refine as1 ?_ | fail)
    (first | refine callA (specValsA (rx rows k)) ?_ | refine callD (specValsA (rx rows k)) ?_ | refine callE (specValsA (rx rows k)) ?_ | refine callF (specValsA (rx rows k)) ?_ ?_)
    cases h2:valB (rx rows k) with
    | true =>
     repeat' (first | refine sq ?_ | refine stp ?_ | refine blk_o (by decide) ?_ | (apply cb;(focus (simp (disch:=(first | omega | (simp;omega))) only [go_sem,w64,g0,h1t];try exact rfl));refine cok ?_) | (refine rgW ?_;intro K hK) | (refine dA ?_;intro K hK) | (with_reducible refine hK _ ?_;clear hK K) | (refine stq ?_;simp (disch:=(first | omega | (simp;omega))) only [go_sem,w64,g0,h1t]) | refine as1 ?_ | fail)
     refine ⟨rows.length - (k+1),_,by omega,?_,k+1,rfl,by omega,fun i hi=>?_,rfl⟩
     ·exact sleA
     ·by_cases e:i=k
      ·subst e;exact ⟨h1,h2⟩
      ·exact hin i (by omega)
    | false =>
     repeat' (first | refine sq ?_ | refine stp ?_ | refine blk_o (by decide) ?_ | (apply cb;(focus (simp (disch:=(first | omega | (simp;omega))) only [go_sem,w64,g0,h1t];try exact rfl));refine cok ?_) | (refine rgW ?_;intro K hK) | (refine dA ?_;intro K hK) | (with_reducible refine hK _ ?_;clear hK K) | (refine stq ?_;simp (disch:=(first | omega | (simp;omega))) only [go_sem,w64,g0,h1t]) | refine as1 ?_ | fail)
     have hno:=nr_out (ar:=ar) hk2 (fun h=>by rw [h2] at h;cases h.2)
     obtain ⟨e1,e2⟩:=nr_no hno
     rw [e1,e2,hno]
     refine end0 0 (.inr rfl) (by simp (disch:=(first | omega | (simp;omega))) only [go_sem,w64];rfl) (r:=.tup [.st [.d (.int 0),.nil],.d (.bool false)]) (by simp (disch:=(first | omega | (simp;omega))) only [go_sem,w64];exact .tup (.cons (.st (.cons (.refl _) (.cons .nl .nil))) (.cons (.refl _) .nil))) ⟨_,.inl ⟨rfl,rfl⟩,rfl,rfl⟩
   ·have h1t:((rx rows k).length:Int)=ar↔False:=iff_of_false h1 id
    repeat' (first | refine sq ?_ | refine stp ?_ | refine blk_o (by decide) ?_ | (apply cb;(focus (simp (disch:=(first | omega | (simp;omega))) only [go_sem,w64,g0,h1t];try exact rfl));refine cok ?_) | (refine rgW ?_;intro K hK) | (refine dA ?_;intro K hK) | (with_reducible refine hK _ ?_;clear hK K) | (refine stq ?_;simp (disch:=(first | omega | (simp;omega))) only [go_sem,w64,g0,h1t]) | refine as1 ?_ | fail)
    have hno:=nr_out (ar:=ar) hk2 (fun h=>h1 h.1)
    obtain ⟨e1,e2⟩:=nr_no hno
    rw [e1,e2,hno]
    refine end0 0 (.inr rfl) (by simp (disch:=(first | omega | (simp;omega))) only [go_sem,w64];rfl) (r:=.tup [.st [.d (.int 0),.nil],.d (.bool false)]) (by simp (disch:=(first | omega | (simp;omega))) only [go_sem,w64];exact .tup (.cons (.st (.cons (.refl _) (.cons .nl .nil))) (.cons (.refl _) .nil))) ⟨_,.inl ⟨rfl,rfl⟩,rfl,rfl⟩
  ·obtain rfl:k=rows.length:=by omega
   have hs:SameL ar.toNat rows:=rowsIn.same hin
   have hsl:=srt_len rows
   repeat' (first | refine sq ?_ | refine stp ?_ | refine blk_o (by decide) ?_ | (apply cb;(focus (simp (disch:=(first | omega | (simp;omega))) only [go_sem,w64];try exact rfl));refine cok ?_) | (refine rgS ?_;intro K hK) | (refine dA ?_;intro K hK) | (with_reducible refine hK _ ?_;clear hK K) | (refine stq ?_;simp (disch:=(first | omega | (simp;omega))) only [go_sem,w64]) | refine as1 ?_ | fail)
   (first | refine callA (l5SortA ar.toNat (by omega) rows.length rows (Nat.le_refl _) hl hs) ?_ | refine callD (l5SortA ar.toNat (by omega) rows.length rows (Nat.le_refl _) hl hs) ?_ | refine callE (l5SortA ar.toNat (by omega) rows.length rows (Nat.le_refl _) hl hs) ?_ | refine callF (l5SortA ar.toNat (by omega) rows.length rows (Nat.le_refl _) hl hs) ?_ ?_)
   repeat' (first | refine sq ?_ | refine stp ?_ | refine blk_o (by decide) ?_ | (apply cb;(focus (simp (disch:=(first | omega | (simp;omega))) only [go_sem,w64];try exact rfl));refine cok ?_) | (refine rgS ?_;intro K hK) | (refine dA ?_;intro K hK) | (with_reducible refine hK _ ?_;clear hK K) | (refine stq ?_;simp (disch:=(first | omega | (simp;omega))) only [go_sem,w64]) | refine as1 ?_ | fail)
   refine callE (l5CopyS ar (srt rows) (by omega) (fun x hx=>by have:=hs.srt x hx;omega)) ?_
   rintro r os ⟨hr,rfl⟩
   refine ⟨by decide,?_⟩
   rcases hr with ⟨he,rfl⟩ | rfl
   ·repeat' (first | refine sq ?_ | refine stp ?_ | refine blk_o (by decide) ?_ | (apply cb;(focus (simp (disch:=(first | omega | (simp;omega))) only [go_sem,w64];try exact rfl));refine cok ?_) | (refine rgS ?_;intro K hK) | (refine dA ?_;intro K hK) | (with_reducible refine hK _ ?_;clear hK K) | (refine stq ?_;simp (disch:=(first | omega | (simp;omega))) only [go_sem,w64]) | refine as1 ?_ | fail)
    (first | refine callA (specValidRelA ar []) ?_ | refine callD (specValidRelA ar []) ?_ | refine callE (specValidRelA ar []) ?_ | refine callF (specValidRelA ar []) ?_ ?_)
    cases h3:validR ar (srt rows) with
    | false =>
     rw [he] at h3
     rw [h3]
     rw [← he] at h3
     repeat' (first | refine sq ?_ | refine stp ?_ | refine blk_o (by decide) ?_ | (apply cb;(focus (simp (disch:=(first | omega | (simp;omega))) only [go_sem,w64];try exact rfl));refine cok ?_) | (refine rgW ?_;intro K hK) | (refine dA ?_;intro K hK) | (with_reducible refine hK _ ?_;clear hK K) | (refine stq ?_;simp (disch:=(first | omega | (simp;omega))) only [go_sem,w64]) | refine as1 ?_ | fail)
     have hno:=nr_val h3
     obtain ⟨e1,e2⟩:=nr_no hno
     rw [e1,e2,hno]
     refine end0 0 (.inr rfl) (by simp (disch:=(first | omega | (simp;omega))) only [go_sem,w64];rfl) (r:=.tup [.st [.d (.int 0),.nil],.d (.bool false)]) (by simp (disch:=(first | omega | (simp;omega))) only [go_sem,w64];exact .tup (.cons (.st (.cons (.refl _) (.cons .nl .nil))) (.cons (.refl _) .nil))) ⟨_,.inl ⟨rfl,rfl⟩,rfl,rfl⟩
    | true =>
     rw [he] at h3
     rw [h3]
     rw [← he] at h3
     repeat' (first | refine sq ?_ | refine stp ?_ | refine blk_o (by decide) ?_ | (apply cb;(focus (simp (disch:=(first | omega | (simp;omega))) only [go_sem,w64];try exact rfl));refine cok ?_) | (refine rgS ?_;intro K hK) | (refine dA ?_;intro K hK) | (with_reducible refine hK _ ?_;clear hK K) | (refine stq ?_;simp (disch:=(first | omega | (simp;omega))) only [go_sem,w64]) | refine as1 ?_ | fail)
     have hno:=nr_in hin h3
     obtain ⟨e1,e2⟩:=nr_yes hno
     rw [e1,e2,hno]
     refine end0 0 (.inr rfl) (by simp (disch:=(first | omega | (simp;omega))) only [go_sem,w64];rfl) (r:=.tup [.st [.d (.int ar),.nil],.d (.bool true)]) (by simp (disch:=(first | omega | (simp;omega))) only [go_sem,w64];exact .refl _) ⟨_,.inl ⟨he,rfl⟩,rfl,rfl⟩
   ·repeat' (first | refine sq ?_ | refine stp ?_ | refine blk_o (by decide) ?_ | (apply cb;(focus (simp (disch:=(first | omega | (simp;omega))) only [go_sem,w64];try exact rfl));refine cok ?_) | (refine rgS ?_;intro K hK) | (refine dA ?_;intro K hK) | (with_reducible refine hK _ ?_;clear hK K) | (refine stq ?_;simp (disch:=(first | omega | (simp;omega))) only [go_sem,w64]) | refine as1 ?_ | fail)
    (first | refine callA (specValidRelA ar (srt rows)) ?_ | refine callD (specValidRelA ar (srt rows)) ?_ | refine callE (specValidRelA ar (srt rows)) ?_ | refine callF (specValidRelA ar (srt rows)) ?_ ?_)
    cases h3:validR ar (srt rows) with
    | false =>
     repeat' (first | refine sq ?_ | refine stp ?_ | refine blk_o (by decide) ?_ | (apply cb;(focus (simp (disch:=(first | omega | (simp;omega))) only [go_sem,w64];try exact rfl));refine cok ?_) | (refine rgW ?_;intro K hK) | (refine dA ?_;intro K hK) | (with_reducible refine hK _ ?_;clear hK K) | (refine stq ?_;simp (disch:=(first | omega | (simp;omega))) only [go_sem,w64]) | refine as1 ?_ | fail)
     have hno:=nr_val h3
     obtain ⟨e1,e2⟩:=nr_no hno
     rw [e1,e2,hno]
     refine end0 0 (.inr rfl) (by simp (disch:=(first | omega | (simp;omega))) only [go_sem,w64];rfl) (r:=.tup [.st [.d (.int 0),.nil],.d (.bool false)]) (by simp (disch:=(first | omega | (simp;omega))) only [go_sem,w64];exact .tup (.cons (.st (.cons (.refl _) (.cons .nl .nil))) (.cons (.refl _) .nil))) ⟨_,.inl ⟨rfl,rfl⟩,rfl,rfl⟩
    | true =>
     repeat' (first | refine sq ?_ | refine stp ?_ | refine blk_o (by decide) ?_ | (apply cb;(focus (simp (disch:=(first | omega | (simp;omega))) only [go_sem,w64];try exact rfl));refine cok ?_) | (refine rgS ?_;intro K hK) | (refine dA ?_;intro K hK) | (with_reducible refine hK _ ?_;clear hK K) | (refine stq ?_;simp (disch:=(first | omega | (simp;omega))) only [go_sem,w64]) | refine as1 ?_ | fail)
     have hno:=nr_in hin h3
     obtain ⟨e1,e2⟩:=nr_yes hno
     rw [e1,e2,hno]
     refine end0 34 (.inr rfl) (by simp (disch:=(first | omega | (simp;omega))) only [go_sem,w64];rfl) (r:=.tup [.st [.d (.int ar),.buf 0 27 1 ((srt rows).map intsD)],.d (.bool true)]) (by simp (disch:=(first | omega | (simp;omega))) only [go_sem,w64];exact .refl _) ⟨_,.inr rfl,rfl,rfl⟩
structure RelFit (ar:Int) (rows:List (List Int)):Prop where
 a0:0≤ar
 a1:ar≤5
 len:rows.length≤4000
 row:∀ x∈rows,((x.length:Nat):Int)=ar
theorem nr_fit (ar:Int) (rows:List (List Int)):RelFit (nrAr ar rows) (nrRows ar rows):=by
 cases h:nrOK ar rows with
 | false=>obtain ⟨e1,e2⟩:=nr_no h;rw [e1,e2];exact ⟨by omega,by omega,by simp,fun x hx=>(by cases hx)⟩
 | true =>
  obtain ⟨e1,e2⟩:=nr_yes h
  rw [e1,e2]
  have hv:validR ar (srt rows)=true:=by simp only [nrOK,Bool.and_eq_true] at h;exact h.2
  obtain ⟨h1,h2,h3⟩:=validR_out hv
  refine ⟨h1.1,h1.2,h2,fun x hx=>?_⟩
  obtain ⟨i,hi,e⟩:=List.getElem_of_mem hx
  have:=rows_len hv hi
  rw [rx_lt hi,e] at this
  exact this
theorem l5RelS (ar most val:Int) (har:ar≤1000) (hm0:0≤most) (hm:most≤900):AFn 62 [.ptr 0 0,.d (.int ar),.d (.int most),.d (.int val)] [curL] (fun r os=>∃ (ar':Int) (rows:List (List Int)),RelFit ar' rows∧isRel 0 ar' rows r∧os=[curL]):=by
 refine afn_of (rv:=[.cell 8 49]) tyS_ok Try.func62 rfl (by decide +kernel) Try.ntmps62 rfl (by simp) ?_
 have w0:IntKind.i64.wrap (most+1)=most+1:=w64 (by omega)
 repeat' (first | refine sq ?_ | refine stp ?_ | refine blk_o (by decide) ?_ | (apply cb;(focus (simp (disch:=(first | omega | (simp;omega))) only [go_sem,w64,w0];try exact rfl));refine cok ?_) | (refine rgT ?_;intro K hK) | (refine dA ?_;intro K hK) | (with_reducible refine hK _ ?_;clear hK K) | (refine stq ?_;simp (disch:=(first | omega | (simp;omega))) only [go_sem,w64,w0]) | refine as1 ?_ | fail)
 (refine callL 1000000 (l1BelowA (most+1)) ?_)
 rintro r os ⟨n,hn,rfl,rfl⟩
 refine ⟨by decide,?_⟩
 repeat' (first | refine sq ?_ | refine stp ?_ | refine blk_o (by decide) ?_ | (apply cb;(focus (simp (disch:=(first | omega | (simp;omega))) only [go_sem,w64];try exact rfl));refine cok ?_) | (refine rgT ?_;intro K hK) | (refine dA ?_;intro K hK) | (with_reducible refine hK _ ?_;clear hK K) | (refine stq ?_;simp (disch:=(first | omega | (simp;omega))) only [go_sem,w64]) | refine as1 ?_ | fail)
 refine awp_loopw (fun m s=>∃ (xss:List (List Int)) (k:Int),m=k.toNat∧0≤k∧(xss.length:Int)+k≤1000∧s=mkS [(0,.ptr 1000000 0),(1,.d (.int ar)),(3,.d (.int val)),(8,.ptr 8 0),(9,.buf 13 27 1 (xss.map intsD)),(10,.d (.int k))] [(8,[.d (.int 0),.nil]),(1000000,curL)]) ?_ ?_
 ·refine ⟨_,_,?_,[],n,rfl,hn.1,by simp;omega,rfl⟩
  exact sleA
 ·rintro m s ⟨xss,k,rfl,hk,hlk,rfl⟩
  repeat' (first | refine sq ?_ | refine stp ?_ | refine blk_o (by decide) ?_ | (apply cb;(focus (simp (disch:=(first | omega | (simp;omega))) only [go_sem,w64];try exact rfl));refine cok ?_) | (refine rgT ?_;intro K hK) | (refine dA ?_;intro K hK) | (with_reducible refine hK _ ?_;clear hK K) | (refine stq ?_;simp (disch:=(first | omega | (simp;omega))) only [go_sem,w64]) | refine as1 ?_ | fail)
  refine awp_if (p:=(0:Int)<k) (by simp (disch:=(first | omega | (simp;omega))) only [go_sem,w64]) ?_ ?_ <;> intro hc
  ·have wk:IntKind.i64.wrap (k - 1)=k - 1:=w64 (by omega)
   repeat' (first | refine sq ?_ | refine stp ?_ | refine blk_o (by decide) ?_ | (apply cb;(focus (simp (disch:=(first | omega | (simp;omega))) only [go_sem,w64];try exact rfl));refine cok ?_) | (refine rgT ?_;intro K hK) | (refine dA ?_;intro K hK) | (with_reducible refine hK _ ?_;clear hK K) | (refine stq ?_;simp (disch:=(first | omega | (simp;omega))) only [go_sem,w64]) | refine as1 ?_ | fail)
   (refine callL 1000000 (l4RowA ar val har) ?_)
   rintro r os ⟨l,hl,rfl,rfl⟩
   refine ⟨by decide,?_⟩
   repeat' (first | refine sq ?_ | refine stp ?_ | refine blk_o (by decide) ?_ | (apply cb;(focus (simp (disch:=(first | omega | (simp;omega))) only [go_sem,w64,wk];try exact rfl));refine cok ?_) | (refine rgT ?_;intro K hK) | (refine dA ?_;intro K hK) | (with_reducible refine hK _ ?_;clear hK K) | (refine stq ?_;simp (disch:=(first | omega | (simp;omega))) only [go_sem,w64,wk]) | refine as1 ?_ | fail)
   refine ⟨(k - 1).toNat,_,by omega,?_,xss ++ [l],k - 1,rfl,by omega,by simp;omega,rfl⟩
   rw [List.map_append]
   exact sleA
  ·repeat' (first | refine sq ?_ | refine stp ?_ | refine blk_o (by decide) ?_ | (apply cb;(focus (simp (disch:=(first | omega | (simp;omega))) only [go_sem,w64];try exact rfl));refine cok ?_) | (refine rgT ?_;intro K hK) | (refine dA ?_;intro K hK) | (with_reducible refine hK _ ?_;clear hK K) | (refine stq ?_;simp (disch:=(first | omega | (simp;omega))) only [go_sem,w64]) | refine as1 ?_ | fail)
   refine callE (specNewRelS ar xss (by omega) (by omega)) ?_
   rintro r os ⟨x,hx,rfl,rfl⟩
   refine ⟨by decide,?_⟩
   rcases hx with ⟨he,rfl⟩ | rfl
   ·repeat' (first | refine sq ?_ | refine stp ?_ | refine blk_o (by decide) ?_ | (apply cb;(focus (simp (disch:=(first | omega | (simp;omega))) only [go_sem,w64];try exact rfl));refine cok ?_) | (refine rgS ?_;intro K hK) | (refine dA ?_;intro K hK) | (with_reducible refine hK _ ?_;clear hK K) | (refine stq ?_;simp (disch:=(first | omega | (simp;omega))) only [go_sem,w64]) | refine as1 ?_ | fail)
    refine end1 0 (.inr rfl) (by simp (disch:=(first | omega | (simp;omega))) only [go_sem,w64];rfl) (by simp (disch:=(first | omega | (simp;omega))) only [go_sem,w64];rfl) (r:=.st [.d (.int (nrAr ar xss)),.nil]) (by simp (disch:=(first | omega | (simp;omega))) only [go_sem,w64];exact .refl _) ⟨_,_,nr_fit ar xss,.inl ⟨he,rfl⟩,rfl⟩
   ·repeat' (first | refine sq ?_ | refine stp ?_ | refine blk_o (by decide) ?_ | (apply cb;(focus (simp (disch:=(first | omega | (simp;omega))) only [go_sem,w64];try exact rfl));refine cok ?_) | (refine rgS ?_;intro K hK) | (refine dA ?_;intro K hK) | (with_reducible refine hK _ ?_;clear hK K) | (refine stq ?_;simp (disch:=(first | omega | (simp;omega))) only [go_sem,w64]) | refine as1 ?_ | fail)
    refine end1 32 (.inr rfl) (by simp (disch:=(first | omega | (simp;omega))) only [go_sem,w64];rfl) (by simp (disch:=(first | omega | (simp;omega))) only [go_sem,w64];rfl) (r:=.st [.d (.int (nrAr ar xss)),.buf 0 27 1 ((nrRows ar xss).map intsD)]) (by simp (disch:=(first | omega | (simp;omega))) only [go_sem,w64];exact .refl _) ⟨_,_,nr_fit ar xss,.inr rfl,rfl⟩
end Go.Proofs.Ytfobmfngbfbfdaa
namespace Go.Proofs.Ytfobmfngbfbfdaa
set_option linter.unusedSimpArgs false
set_option linter.unusedVariables false
attribute [local go_sem ↓] reduceIte
attribute [local go_sem] Nat.reduceEqDiff Nat.reduceLT Nat.reduceAdd Nat.reduceLeDiff Nat.reduceMul Nat.reduceBEq Nat.reduceSub reduceCtorEq Int.reduceLE Int.reduceNeg Int.reduceLT
open Go.RowKit
theorem LStep.weak {P:Cx→Prop} {N:Nat} {o:Oper} {s s0:AS} {K:AS→Prop} (h:SLe s s0) (hl:LStep P N o s0 K):LStep P N o s K:=fun X G a w hN hP hr=>by
 obtain ⟨G',hr'⟩:=Rel.weak h ⟨G,hr⟩
 exact hl X G' a w hN hP hr'
theorem ssim_tm {e:Pk} {s s':AS} {x:AV} (t:Nat) (h:SSim e s s') (hx:s.tm t=x):ASim e x (s'.tm t):=hx ▸ h.1 t
theorem ssim_ob {e:Pk} {s s':AS} {l:List AV} (q:Nat) (h:SSim e s s') (hq:s.ob q=some l):∃ l',s'.ob q=some l'∧ASims e l l':=by
 rcases h.2 q with ⟨h1,_⟩ | ⟨l0,l',h1,h2,h3⟩
 ·rw [hq] at h1;cases h1
 ·rw [hq] at h1;cases h1;exact ⟨l',h2,h3⟩
theorem csims_ints {e:Pk}:∀ {l:List Int} {m:List DV},CSims e (l.map .int) m→∃ l':List Int,m=l'.map .int∧l'.length=l.length
 | [],m,h=>by obtain rfl:=h;exact ⟨[],rfl,rfl⟩
 | x :: l,m,h=>by
  obtain ⟨_,m',rfl,⟨z,rfl,_⟩,h2⟩:=h
  obtain ⟨l',rfl,e1⟩:=csims_ints h2
  exact ⟨z :: l',rfl,by simp [e1]⟩
theorem csims_rows {e:Pk}:∀ {l:List (List Int)} {m:List DV},CSims e (l.map intsD) m→∃ l':List (List Int),m=l'.map intsD∧l'.length=l.length∧∀ x∈l',x.length=0∨∃ y∈l,x.length=y.length
 | [],m,h=>by obtain rfl:=h;exact ⟨[],rfl,rfl,fun x hx=>(by cases hx)⟩
 | x :: l,m,h=>by
  obtain ⟨_,m',rfl,⟨r,rfl,hr⟩,h2⟩:=h
  obtain ⟨l',rfl,e1,h3⟩:=csims_rows h2
  have h4:∃ r':List Int,r=r'.map .int∧(r'.length=0∨r'.length=x.length):=by
   rcases hr with hr | ⟨_,rfl⟩
   ·obtain ⟨r',e2,e3⟩:=csims_ints hr;exact ⟨r',e2,.inr e3⟩
   ·exact ⟨[],rfl,.inl rfl⟩
  obtain ⟨r',rfl,e2⟩:=h4
  refine ⟨r' :: l',rfl,by simp [e1],fun y hy=>?_⟩
  rcases List.mem_cons.1 hy with rfl | hy
  ·exact e2.imp id fun e2=>⟨x,List.mem_cons_self ..,e2⟩
  ·rcases h3 y hy with e3 | ⟨z,hz,e3⟩
   ·exact .inl e3
   ·exact .inr ⟨z,List.mem_cons_of_mem _ hz,e3⟩
theorem csims_bytes {e:Pk}:∀ {l:List Int} {m:List DV},CSims e (l.map .byte) m→m=l.map .byte
 | [],m,h=>by obtain rfl:=h;rfl
 | x :: l,m,h=>by
  obtain ⟨_,m',rfl,rfl,h2⟩:=h
  rw [csims_bytes h2];rfl
theorem cur_sim {e:Pk} {l:List AV} (h:ASims e curL l):ALes l curL:=by
 obtain ⟨_,_,rfl,rfl,_,_,rfl,rfl,_,_,rfl,rfl,rfl⟩:=h
 refine .cons (.anyP ?_) (.cons (.anyP ?_) (.cons (.anyP ?_) .nil))
 ·rintro y ⟨x,⟨l,rfl⟩,l',rfl,h⟩
  exact ⟨l,by rw [csims_bytes h]⟩
 ·rintro y ⟨x,⟨n,hn,rfl⟩,rfl⟩
  exact ⟨n,hn,rfl⟩
 ·rintro y ⟨x,⟨n,rfl⟩,rfl⟩
  exact ⟨n,rfl⟩
theorem nod_args:∀ x∈[AV.ptr 0 0],NoD x:=by
 intro x hx
 simp only [List.mem_singleton] at hx
 subst hx
 exact nod_ptr 0 0
theorem nod_cur:∀ l∈[curL],∀ x∈l,NoD x:=by
 intro l hl x hx
 simp only [List.mem_singleton] at hl
 subst hl
 simp only [curL,List.mem_cons,List.not_mem_nil,or_false] at hx
 rcases hx with rfl | rfl | rfl
 ·exact nod_anyB fun x h=>h
 ·exact nod_anyI fun x ⟨n,_,e⟩=>⟨n,e⟩
 ·exact nod_anyI fun x h=>h
end Go.Proofs.Ytfobmfngbfbfdaa
namespace Go.Proofs.Ytfobmfngbfbfdaa
set_option linter.unusedSimpArgs false
set_option linter.unusedVariables false
attribute [local go_sem ↓] reduceIte
attribute [local go_sem] Nat.reduceEqDiff Nat.reduceLT Nat.reduceAdd Nat.reduceLeDiff Nat.reduceMul Nat.reduceBEq Nat.reduceSub reduceCtorEq Int.reduceLE Int.reduceNeg Int.reduceLT
open Go.RowKit
structure RelAny (ar:Int) (rows:List (List Int)):Prop where
 a0:-1≤ar
 a1:ar≤6
 len:rows.length≤5000
 row:∀ x∈rows,x.length≤10
theorem RelFit.any {ar:Int} {rows:List (List Int)} (h:RelFit ar rows):RelAny ar rows:=⟨by have:=h.a0;omega,by have:=h.a1;omega,by have:=h.len;omega,fun x hx=>by have:=h.row x hx;have:=h.a1;omega⟩
theorem rel_ar {ar x:Int} {rows:List (List Int)} (h:RelAny ar rows) (hx:x∈[-1,6,ar+1]) (h5:ar≤5:=by omega):RelAny x rows:=by
 have:=h.a0
 simp only [List.mem_cons,List.not_mem_nil,or_false] at hx
 exact ⟨by omega,by omega,h.len,h.row⟩
theorem rel_app {ar:Int} {rows:List (List Int)} {l:List Int} (h:RelAny ar rows) (hl:((l.length:Nat):Int)=max 0 (if 0<ar then ar else 0)) (h4:rows.length≤4000:=by first | assumption | (simp;done)):RelAny ar (rows ++ [l]):=by
 have h1:=h.a1
 refine ⟨h.a0,h.a1,by simp;omega,fun x hx=>?_⟩
 rcases List.mem_append.1 hx with hx | hx
 ·exact h.row x hx
 ·rw [List.mem_singleton] at hx;subst hx;split at hl <;> omega
def anyRel (r:AV):Prop:=∃ (ar:Int) (rows:List (List Int)),RelAny ar rows∧r=.d (relD ar rows)
set_option maxHeartbeats 2000000 in
theorem l5AnyA:AFn 59 [.ptr 0 0] [curL] (fun r os=>anyRel r∧os=[curL]):=by
 refine afn_ofC (rv:=[.cell 2 49]) tyT_ok Try.func59 rfl (by decide +kernel) Try.ntmps59 rfl (by simp) nod_args nod_cur ?_
 repeat' (first | refine sq ?_ | refine stp ?_ | refine blk_o (by decide) ?_ | (apply cb;(focus (simp (disch:=(first | omega | (simp;omega))) only [go_sem,w64];try exact rfl));refine cok ?_) | (refine rgT ?_;intro K hK) | (refine dA ?_;intro K hK) | (with_reducible refine hK _ ?_;clear hK K) | (refine stq ?_;simp (disch:=(first | omega | (simp;omega))) only [go_sem,w64]) | refine as1 ?_ | fail)
 (refine callL 1000000 (l1BelowA 4) ?_)
 rintro r os ⟨n,⟨hn0,_,hn1⟩,rfl,rfl⟩
 have hn2:=hn1 (by omega)
 refine ⟨by decide,?_⟩
 repeat' (first | refine sq ?_ | refine stp ?_ | refine blk_o (by decide) ?_ | (apply cb;(focus (simp (disch:=(first | omega | (simp;omega))) only [go_sem,w64];try exact rfl));refine cok ?_) | (refine rgT ?_;intro K hK) | (refine dA ?_;intro K hK) | (with_reducible refine hK _ ?_;clear hK K) | (refine stq ?_;simp (disch:=(first | omega | (simp;omega))) only [go_sem,w64]) | refine as1 ?_ | fail)
 (refine callL 1000000 (l5RelS n 6 4 (by omega) (by omega) (by omega)) ?_)
 rintro r os ⟨ar,rows,hf,hr,rfl⟩
 refine ⟨by decide,?_⟩
 have hA:=hf.any
 have a0:=hf.a0
 have a1:=hf.a1
 have a4:=hf.len
 have wA:IntKind.i64.wrap (ar+1)=ar+1:=w64 (by omega)
 rcases hr with ⟨rfl,rfl⟩ | rfl
 ·repeat' (first | refine sq ?_ | refine stp ?_ | refine blk_o (by decide) ?_ | (apply cb;(focus (simp (disch:=(first | omega | (simp;omega))) only [go_sem,w64];try exact rfl));refine cok ?_) | (refine rgS ?_;intro K hK) | (refine dA ?_;intro K hK) | (with_reducible refine hK _ ?_;clear hK K) | (refine stq ?_;simp (disch:=(first | omega | (simp;omega))) only [go_sem,w64]) | refine as1 ?_ | fail)
  (refine callL 1000000 (l1BelowA 14) ?_)
  rintro r os ⟨k,hk,rfl,rfl⟩
  refine ⟨by decide,?_⟩
  by_cases k0:k=0
  ·have e0:k=0↔True:=iff_of_true k0 trivial
   repeat' (first | refine sq ?_ | refine stp ?_ | refine blk_o (by decide) ?_ | (apply cb;(focus (simp (disch:=(first | omega | (simp;omega))) only [go_sem,w64,e0,wA];try exact rfl));refine cok ?_) | (refine rgS ?_;intro K hK) | (refine dA ?_;intro K hK) | (with_reducible refine hK _ ?_;clear hK K) | (refine stq ?_;simp (disch:=(first | omega | (simp;omega))) only [go_sem,w64,e0,wA]) | refine as1 ?_ | fail)
   (refine callL 1000000 (l1PickIntM [-1,6,ar+1] (by simp)) ?_)
   rintro r os ⟨x,hx,rfl,rfl⟩
   refine ⟨by decide,?_⟩
   repeat' (first | refine sq ?_ | refine stp ?_ | refine blk_o (by decide) ?_ | (apply cb;(focus (simp (disch:=(first | omega | (simp;omega))) only [go_sem,w64];try exact rfl));refine cok ?_) | (refine rgT ?_;intro K hK) | (refine dA ?_;intro K hK) | (with_reducible refine hK _ ?_;clear hK K) | (refine stq ?_;simp (disch:=(first | omega | (simp;omega))) only [go_sem,w64]) | refine as1 ?_ | fail)
   refine end1 0 (.inr rfl) (by simp (disch:=(first | omega | (simp;omega))) only [go_sem,w64];rfl) (by simp (disch:=(first | omega | (simp;omega))) only [go_sem,w64];rfl) (r:=.d (relD x [])) (by simp (disch:=(first | omega | (simp;omega))) only [go_sem,w64];exact .refl _) ⟨⟨_,_,rel_ar hA hx,rfl⟩,rfl⟩
  ·have e0:k=0↔False:=iff_of_false k0 id
   by_cases k1:k=1
   ·have e1:k=1↔True:=iff_of_true k1 trivial
    repeat' (first | refine sq ?_ | refine stp ?_ | refine blk_o (by decide) ?_ | (apply cb;(focus (simp (disch:=(first | omega | (simp;omega))) only [go_sem,w64,e0,e1];try exact rfl));refine cok ?_) | (refine rgS ?_;intro K hK) | (refine dA ?_;intro K hK) | (with_reducible refine hK _ ?_;clear hK K) | (refine stq ?_;simp (disch:=(first | omega | (simp;omega))) only [go_sem,w64,e0,e1]) | refine as1 ?_ | fail)
    (refine callDL (j:=0) 1000000 (l4RowA (if 0<ar then ar else 0) 4 (by split <;> omega)) ?_ ?_)
    ·exact ⟨_,_,List.replicate (if 0<ar then ar else 0).toNat 0,by simp;split <;> omega,rfl,rfl⟩
    rintro r os ⟨l,hl,rfl,rfl⟩
    refine ⟨[],rfl,by decide,?_⟩
    repeat' (first | refine sq ?_ | refine stp ?_ | refine blk_o (by decide) ?_ | (apply cb;(focus (simp (disch:=(first | omega | (simp;omega))) only [go_sem,w64,e0,e1];try exact rfl));refine cok ?_) | (refine rgT ?_;intro K hK) | (refine dA ?_;intro K hK) | (with_reducible refine hK _ ?_;clear hK K) | (refine stq ?_;simp (disch:=(first | omega | (simp;omega))) only [go_sem,w64,e0,e1]) | refine as1 ?_ | fail)
    refine end1 0 (.inr rfl) (by simp (disch:=(first | omega | (simp;omega))) only [go_sem,w64];rfl) (by simp (disch:=(first | omega | (simp;omega))) only [go_sem,w64];rfl) (r:=.d (relD ar ([] ++ [l]))) (by simp (disch:=(first | omega | (simp;omega))) only [go_sem,w64];exact .refl _) ⟨⟨_,_,rel_app hA hl,rfl⟩,rfl⟩
   ·have e1:k=1↔False:=iff_of_false k1 id
    by_cases k2:k=2
    ·have e2:k=2↔True:=iff_of_true k2 trivial
     repeat' (first | refine sq ?_ | refine stp ?_ | refine blk_o (by decide) ?_ | (apply cb;(focus (simp (disch:=(first | omega | (simp;omega))) only [go_sem,w64,e0,e1,e2];try exact rfl));refine cok ?_) | (refine rgT ?_;intro K hK) | (refine dA ?_;intro K hK) | (with_reducible refine hK _ ?_;clear hK K) | (refine stq ?_;simp (disch:=(first | omega | (simp;omega))) only [go_sem,w64,e0,e1,e2]) | refine as1 ?_ | fail)
     refine end1 0 (.inr rfl) (by simp (disch:=(first | omega | (simp;omega))) only [go_sem,w64];rfl) (by simp (disch:=(first | omega | (simp;omega))) only [go_sem,w64];rfl) (r:=.d (relD ar [])) (by simp (disch:=(first | omega | (simp;omega))) only [go_sem,w64];exact .refl _) ⟨⟨_,_,hA,rfl⟩,rfl⟩
    ·have e2:k=2↔False:=iff_of_false k2 id
     repeat' (first | refine sq ?_ | refine stp ?_ | refine blk_o (by decide) ?_ | (apply cb;(focus (simp (disch:=(first | omega | (simp;omega))) only [go_sem,w64,e0,e1,e2];try exact rfl));refine cok ?_) | (refine rgT ?_;intro K hK) | (refine dA ?_;intro K hK) | (with_reducible refine hK _ ?_;clear hK K) | (refine stq ?_;simp (disch:=(first | omega | (simp;omega))) only [go_sem,w64,e0,e1,e2]) | refine as1 ?_ | fail)
     refine end1 0 (.inr rfl) (by simp (disch:=(first | omega | (simp;omega))) only [go_sem,w64];rfl) (by simp (disch:=(first | omega | (simp;omega))) only [go_sem,w64];rfl) (r:=.d (relD ar [])) (by simp (disch:=(first | omega | (simp;omega))) only [go_sem,w64];exact .refl _) ⟨⟨_,_,hA,rfl⟩,rfl⟩
 ·repeat' (first | refine sq ?_ | refine stp ?_ | refine blk_o (by decide) ?_ | (apply cb;(focus (simp (disch:=(first | omega | (simp;omega))) only [go_sem,w64];try exact rfl));refine cok ?_) | (refine rgS ?_;intro K hK) | (refine dA ?_;intro K hK) | (with_reducible refine hK _ ?_;clear hK K) | (refine stq ?_;simp (disch:=(first | omega | (simp;omega))) only [go_sem,w64]) | refine as1 ?_ | fail)
  (refine callL 1000000 (l1BelowA 14) ?_)
  rintro r os ⟨k,hk,rfl,rfl⟩
  refine ⟨by decide,?_⟩
  by_cases k0:k=0
  ·have e0:k=0↔True:=iff_of_true k0 trivial
   repeat' (first | refine sq ?_ | refine stp ?_ | refine blk_o (by decide) ?_ | (apply cb;(focus (simp (disch:=(first | omega | (simp;omega))) only [go_sem,w64,e0,wA];try exact rfl));refine cok ?_) | (refine rgS ?_;intro K hK) | (refine dA ?_;intro K hK) | (with_reducible refine hK _ ?_;clear hK K) | (refine stq ?_;simp (disch:=(first | omega | (simp;omega))) only [go_sem,w64,e0,wA]) | refine as1 ?_ | fail)
   (refine callL 1000000 (l1PickIntM [-1,6,ar+1] (by simp)) ?_)
   rintro r os ⟨x,hx,rfl,rfl⟩
   refine ⟨by decide,?_⟩
   repeat' (first | refine sq ?_ | refine stp ?_ | refine blk_o (by decide) ?_ | (apply cb;(focus (simp (disch:=(first | omega | (simp;omega))) only [go_sem,w64];try exact rfl));refine cok ?_) | (refine rgT ?_;intro K hK) | (refine dA ?_;intro K hK) | (with_reducible refine hK _ ?_;clear hK K) | (refine stq ?_;simp (disch:=(first | omega | (simp;omega))) only [go_sem,w64]) | refine as1 ?_ | fail)
   refine end1 0 (.inr rfl) (by simp (disch:=(first | omega | (simp;omega))) only [go_sem,w64];rfl) (by simp (disch:=(first | omega | (simp;omega))) only [go_sem,w64];rfl) (r:=.d (relD x rows)) (by simp (disch:=(first | omega | (simp;omega))) only [go_sem,w64];exact .refl _) ⟨⟨_,_,rel_ar hA hx,rfl⟩,rfl⟩
  ·have e0:k=0↔False:=iff_of_false k0 id
   by_cases k1:k=1
   ·have e1:k=1↔True:=iff_of_true k1 trivial
    repeat' (first | refine sq ?_ | refine stp ?_ | refine blk_o (by decide) ?_ | (apply cb;(focus (simp (disch:=(first | omega | (simp;omega))) only [go_sem,w64,e0,e1];try exact rfl));refine cok ?_) | (refine rgS ?_;intro K hK) | (refine dA ?_;intro K hK) | (with_reducible refine hK _ ?_;clear hK K) | (refine stq ?_;simp (disch:=(first | omega | (simp;omega))) only [go_sem,w64,e0,e1]) | refine as1 ?_ | fail)
    (refine callDL (j:=0) 1000000 (l4RowA (if 0<ar then ar else 0) 4 (by split <;> omega)) ?_ ?_)
    ·exact ⟨_,_,List.replicate (if 0<ar then ar else 0).toNat 0,by simp;split <;> omega,rfl,rfl⟩
    rintro r os ⟨l,hl,rfl,rfl⟩
    refine ⟨[],rfl,by decide,?_⟩
    repeat' (first | refine sq ?_ | refine stp ?_ | refine blk_o (by decide) ?_ | (apply cb;(focus (simp (disch:=(first | omega | (simp;omega))) only [go_sem,w64,e0,e1];try exact rfl));refine cok ?_) | (refine rgT ?_;intro K hK) | (refine dA ?_;intro K hK) | (with_reducible refine hK _ ?_;clear hK K) | (refine stq ?_;simp (disch:=(first | omega | (simp;omega))) only [go_sem,w64,e0,e1]) | refine as1 ?_ | fail)
    refine end1 0 (.inr rfl) (by simp (disch:=(first | omega | (simp;omega))) only [go_sem,w64];rfl) (by simp (disch:=(first | omega | (simp;omega))) only [go_sem,w64];rfl) (r:=.d (relD ar (rows ++ [l]))) (by rw [show relD ar (rows ++ [l])=.agg [.int ar,.sl 1 (rows.map intsD ++ [intsD l])] from by simp [relD,rowsD]];simp (disch:=(first | omega | (simp;omega))) only [go_sem,w64];exact .refl _) ⟨⟨_,_,rel_app hA hl,rfl⟩,rfl⟩
   ·have e1:k=1↔False:=iff_of_false k1 id
    by_cases k2:k=2
    ·have e2:k=2↔True:=iff_of_true k2 trivial
     by_cases h0:0<rows.length
     ·have g0:(0:Int)<(rows.length:Nat)↔True:=iff_of_true (by omega) trivial
      by_cases h1:0<ar
      ·have g1:0<ar↔True:=iff_of_true h1 trivial
       have r0:(rows.map intsD).getD 0 (.bool false)=intsD (rx rows 0):=getDR h0
       have hm0:rx rows 0∈rows:=by rw [rx_lt h0];exact List.getElem_mem _
       have h2:0<(rx rows 0).length:=by have:=hf.row _ hm0;omega
       have r1:((rx rows 0).map DV.int).getD 0 (.bool false)=.int (ix (rx rows 0) 0):=getDI h2
       repeat' (first | refine sq ?_ | refine stp ?_ | refine blk_o (by decide) ?_ | (apply cb;(focus (simp (disch:=(first | omega | (simp;omega))) only [go_sem,w64,e0,e1,e2,g0,g1];try exact rfl));refine cok ?_) | (refine rgT ?_;intro K hK) | (with_reducible refine hK _ ?_;clear hK K) | (refine stq ?_;simp (disch:=(first | omega | (simp;omega))) only [go_sem,w64,e0,e1,e2,g0,g1]) | refine as1 ?_ | fail)
       refine awp_drawL (o:=?o) tyT_ok (by kernel_rfl) 8 ?h1 ?h2 ?h3 ?h4 ?h5 ?h6
       case h2=>rfl
       case h1=>rfl
       case h3=>rfl
       case h4=>kernel_rfl
       case h5=>kernel_rfl
       intro K hK
       repeat' (first | refine sq ?_ | refine stp ?_ | refine blk_o (by decide) ?_ | (apply cb;(focus (simp (disch:=(first | omega | (simp;omega))) only [go_sem,w64,intsD,Int.toNat_zero,r0,r1];try exact rfl));refine cok ?_) | (with_reducible refine hK _ ?_;clear hK K) | (refine stq ?_;simp (disch:=(first | omega | (simp;omega))) only [go_sem,w64,intsD,Int.toNat_zero,r0,r1]) | refine as1 ?_ | fail)
       (refine callDL (j:=0) 1000000 (l1PickIntM [-1,100,99] (by simp)) ?_ ?_)
       ·exact ⟨_,_,-1,by simp,rfl,rfl⟩
       rintro r os ⟨x,hx,rfl,rfl⟩
       refine ⟨[],rfl,by decide,?_⟩
       repeat' (first | refine sq ?_ | refine stp ?_ | refine blk_o (by decide) ?_ | (apply cb;(focus (simp (disch:=(first | omega | (simp;omega))) only [go_sem,w64,intsD,Int.toNat_zero,r0,r1];try exact rfl));refine cok ?_) | (with_reducible refine hK _ ?_;clear hK K) | (refine stq ?_;simp (disch:=(first | omega | (simp;omega))) only [go_sem,w64,intsD,Int.toNat_zero,r0,r1]) | refine as1 ?_ | fail)
       refine LStep.weak (s0:=mkS [(2,.ptr 2 0),(3,.ptr 3 0),(48,.d (.int x)),(49,.loc [.int (ix (rx rows 0) 0)])] [(2,[.d (.int 0),.nil]),(3,[.d (.int ar),.buf 7 27 1 (rows.map intsD)]),(1000000,curL)]) (by (refine sle_mk ?_ ?_ <;> simp (disch:=(first | omega | (simp;omega))) only [go_sem,w64,intsD,r0,r1] <;> exact leafs)) ?_
       refine lstep_poke tyT_ok ⟨false,fun _=>True⟩ (T:=3) (p:=.tmp 49) (x:=.tmp 48) (y:=.int x) rfl rfl rfl rfl rfl rfl rfl (by decide) (by exact Nat.le_refl 1) rfl (fun _ _=>trivial) ?_
       intro s' hs'
       obtain ⟨l2,ho2,_,_,rfl,⟨_,rfl,rfl⟩,_,_,rfl,rfl,rfl⟩:=ssim_ob 2 hs' rfl
       obtain ⟨l3,ho3,_,_,rfl,⟨_,rfl,rfl⟩,_,_,rfl,⟨rr,rfl,hrr⟩,rfl⟩:=ssim_ob 3 hs' rfl
       obtain ⟨lc,hoc,hlc⟩:=ssim_ob 1000000 hs' rfl
       obtain ⟨rows',rfl,hl',hr'⟩:=csims_rows hrr
       have t2:s'.tm 2=.ptr 2 0:=ssim_tm 2 hs' rfl
       have t3:s'.tm 3=.ptr 3 0:=ssim_tm 3 hs' rfl
       have hA':RelAny ar rows':=⟨hA.a0,hA.a1,by rw [hl'];exact hA.len,fun y hy=>by
        rcases hr' y hy with e | ⟨z,hz,e⟩
        ·omega
        ·have:=hA.row z hz;omega⟩
       refine hK _ ?_
       clear hK
       repeat' (first | refine sq ?_ | refine stp ?_ | refine blk_o (by decide) ?_ | (apply cb;(focus (simp (disch:=(first | omega | (simp;omega))) only [go_sem,w64];try exact rfl));refine cok ?_) | (with_reducible refine hK _ ?_;clear hK K) | (refine stq ?_;simp (disch:=(first | omega | (simp;omega))) only [go_sem,w64]) | refine as1 ?_ | fail)
       refine awp_weak (s':=mkS [(2,.ptr 2 0),(3,.ptr 3 0)] [(2,[.d (.int 0),.nil]),(3,[.d (.int ar),.buf 7 27 1 (rows'.map intsD)]),(1000000,curL)]) (sle_mk ⟨t2 ▸ .refl _,t3 ▸ .refl _,trivial⟩ ⟨⟨_,ho2,ales_eq rfl⟩,⟨_,ho3,ales_eq rfl⟩,⟨_,hoc,cur_sim hlc⟩,trivial⟩) ?_
       repeat' (first | refine sq ?_ | refine stp ?_ | refine blk_o (by decide) ?_ | (apply cb;(focus (simp (disch:=(first | omega | (simp;omega))) only [go_sem,w64];try exact rfl));refine cok ?_) | (refine rgT ?_;intro K hK) | (refine dA ?_;intro K hK) | (with_reducible refine hK _ ?_;clear hK K) | (refine stq ?_;simp (disch:=(first | omega | (simp;omega))) only [go_sem,w64]) | refine as1 ?_ | fail)
       refine end1 0 (.inr rfl) (by simp (disch:=(first | omega | (simp;omega))) only [go_sem,w64];rfl) (by simp (disch:=(first | omega | (simp;omega))) only [go_sem,w64];rfl) (r:=.d (relD ar rows')) (by simp (disch:=(first | omega | (simp;omega))) only [go_sem,w64];exact .refl _) ⟨⟨_,_,hA',rfl⟩,rfl⟩
      ·have g1:0<ar↔False:=iff_of_false h1 id
       repeat' (first | refine sq ?_ | refine stp ?_ | refine blk_o (by decide) ?_ | (apply cb;(focus (simp (disch:=(first | omega | (simp;omega))) only [go_sem,w64,e0,e1,e2,g0,g1];try exact rfl));refine cok ?_) | (refine rgT ?_;intro K hK) | (refine dA ?_;intro K hK) | (with_reducible refine hK _ ?_;clear hK K) | (refine stq ?_;simp (disch:=(first | omega | (simp;omega))) only [go_sem,w64,e0,e1,e2,g0,g1]) | refine as1 ?_ | fail)
       refine end1 0 (.inr rfl) (by simp (disch:=(first | omega | (simp;omega))) only [go_sem,w64];rfl) (by simp (disch:=(first | omega | (simp;omega))) only [go_sem,w64];rfl) (r:=.d (relD ar rows)) (by simp (disch:=(first | omega | (simp;omega))) only [go_sem,w64];exact .refl _) ⟨⟨_,_,hA,rfl⟩,rfl⟩
     ·have g0:(0:Int)<(rows.length:Nat)↔False:=iff_of_false (by omega) id
      repeat' (first | refine sq ?_ | refine stp ?_ | refine blk_o (by decide) ?_ | (apply cb;(focus (simp (disch:=(first | omega | (simp;omega))) only [go_sem,w64,e0,e1,e2,g0];try exact rfl));refine cok ?_) | (refine rgT ?_;intro K hK) | (refine dA ?_;intro K hK) | (with_reducible refine hK _ ?_;clear hK K) | (refine stq ?_;simp (disch:=(first | omega | (simp;omega))) only [go_sem,w64,e0,e1,e2,g0]) | refine as1 ?_ | fail)
      refine end1 0 (.inr rfl) (by simp (disch:=(first | omega | (simp;omega))) only [go_sem,w64];rfl) (by simp (disch:=(first | omega | (simp;omega))) only [go_sem,w64];rfl) (r:=.d (relD ar rows)) (by simp (disch:=(first | omega | (simp;omega))) only [go_sem,w64];exact .refl _) ⟨⟨_,_,hA,rfl⟩,rfl⟩
    ·have e2:k=2↔False:=iff_of_false k2 id
     repeat' (first | refine sq ?_ | refine stp ?_ | refine blk_o (by decide) ?_ | (apply cb;(focus (simp (disch:=(first | omega | (simp;omega))) only [go_sem,w64,e0,e1,e2];try exact rfl));refine cok ?_) | (refine rgT ?_;intro K hK) | (refine dA ?_;intro K hK) | (with_reducible refine hK _ ?_;clear hK K) | (refine stq ?_;simp (disch:=(first | omega | (simp;omega))) only [go_sem,w64,e0,e1,e2]) | refine as1 ?_ | fail)
     refine end1 0 (.inr rfl) (by simp (disch:=(first | omega | (simp;omega))) only [go_sem,w64];rfl) (by simp (disch:=(first | omega | (simp;omega))) only [go_sem,w64];rfl) (r:=.d (relD ar rows)) (by simp (disch:=(first | omega | (simp;omega))) only [go_sem,w64];exact .refl _) ⟨⟨_,_,hA,rfl⟩,rfl⟩
end Go.Proofs.Ytfobmfngbfbfdaa
