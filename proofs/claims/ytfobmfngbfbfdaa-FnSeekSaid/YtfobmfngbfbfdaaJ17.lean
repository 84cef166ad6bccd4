/- Lemmas for the proof of FnIteration, part 17 of 22: no condition of their own. -/
import Derived.Test.YtfobmfngbfbfdaaJ16
namespace Go.Proofs.Ytfobmfngbfbfdaa
set_option linter.unusedSimpArgs false
set_option linter.unusedVariables false
attribute [local go_sem ↓] reduceIte
attribute [local go_sem] Nat.reduceEqDiff Nat.reduceLT Nat.reduceAdd Nat.reduceLeDiff Nat.reduceMul Nat.reduceBEq Nat.reduceSub reduceCtorEq Int.reduceLE Int.reduceNeg Int.reduceLT
open Go.RowKit
theorem rx_last (o:List (List Int)) (z:List Int):rx (o ++ [z]) o.length=z:=by simp [rx]
theorem l5ColsA (row cols:List Int) (hl:cols.length≤1000) (hc:∀ i,i<cols.length→0≤ix cols i∧ix cols i<row.length):AFn 75 [.d (intsD row),.d (intsD cols)] [] (fun r os=>r=.buf 0 3 1 ((pickL cols row).map .int)∧os=[]):=by
 refine afn_of (rv:=[.tmp 4]) tyT_ok Try.func75 rfl (by decide +kernel) Try.ntmps75 rfl (by simp) ?_
 repeat' (first | refine sq ?_ | refine stp ?_ | refine blk_o (by decide) ?_ | (apply cb;(focus (simp (disch:=(first | omega | (simp;omega))) only [go_sem,w64,intsD];try exact rfl));refine cok ?_) | (refine rgT ?_;intro K hK) | (refine dA ?_;intro K hK) | (with_reducible refine hK _ ?_;clear hK K) | (refine stq ?_;simp (disch:=(first | omega | (simp;omega))) only [go_sem,w64,intsD]) | refine as1 ?_ | fail)
 refine awp_loopw (fun m s=>∃ k,m=cols.length - k∧k≤cols.length∧s=mkS [(0,.d (intsD row)),(1,.d (intsD cols)),(5,.buf 7 3 1 ((pickL (cols.take k) row).map .int)),(6,.d (.int (k:Nat)))] []) ?_ ?_
 ·refine ⟨_,_,?_,0,rfl,Nat.zero_le _,rfl⟩
  exact sleA
 ·rintro m s ⟨k,rfl,hk,rfl⟩
  repeat' (first | refine sq ?_ | refine stp ?_ | refine blk_o (by decide) ?_ | (apply cb;(focus (simp (disch:=(first | omega | (simp;omega))) only [go_sem,w64,intsD];try exact rfl));refine cok ?_) | (refine rgT ?_;intro K hK) | (refine dA ?_;intro K hK) | (with_reducible refine hK _ ?_;clear hK K) | (refine stq ?_;simp (disch:=(first | omega | (simp;omega))) only [go_sem,w64,intsD]) | refine as1 ?_ | fail)
  refine awp_if (p:=(k:Int)<cols.length) (by simp (disch:=(first | omega | (simp;omega))) only [go_sem,w64]) ?_ ?_ <;> intro hc1
  ·have hk2:k<cols.length:=by omega
   obtain ⟨h0,h1⟩:=hc k hk2
   have h2:(ix cols k).toNat<row.length:=by omega
   have h3:ix cols k<((row.length:Nat):Int)↔True:=iff_of_true h1 trivial
   have hb:(pickL (cols.take k) row).length≤16777215:=by rw [pickL_len];simp;omega
   repeat' (first | refine sq ?_ | refine stp ?_ | refine blk_o (by decide) ?_ | (apply cb;(focus (simp (disch:=(first | omega | (simp;omega))) only [go_sem,w64,intsD,h3];try exact rfl));refine cok ?_) | (refine rgT ?_;intro K hK) | (refine dA ?_;intro K hK) | (with_reducible refine hK _ ?_;clear hK K) | (refine stq ?_;simp (disch:=(first | omega | (simp;omega))) only [go_sem,w64,intsD,h3]) | refine as1 ?_ | fail)
   refine ⟨cols.length - (k+1),_,by omega,?_,k+1,rfl,by omega,rfl⟩
   rw [pickL_take hk2,List.map_append]
   exact sleA
  ·obtain rfl:k=cols.length:=by omega
   repeat' (first | refine sq ?_ | refine stp ?_ | refine blk_o (by decide) ?_ | (apply cb;(focus (simp (disch:=(first | omega | (simp;omega))) only [go_sem,w64];try exact rfl));refine cok ?_) | (refine rgT ?_;intro K hK) | (refine dA ?_;intro K hK) | (with_reducible refine hK _ ?_;clear hK K) | (refine stq ?_;simp (disch:=(first | omega | (simp;omega))) only [go_sem,w64]) | refine as1 ?_ | fail)
   refine end0 7 (.inr rfl) (by simp (disch:=(first | omega | (simp;omega))) only [go_sem,w64];rfl) (r:=.buf 0 3 1 ((pickL cols row).map .int)) (by simp (disch:=(first | omega | (simp;omega))) only [go_sem,w64];rw [List.take_length];exact .refl _) ?_
   exact ⟨rfl,rfl⟩
theorem l5CopyA (ar:Int) (l:List (List Int)) (hl:l.length≤1048576) (hr:∀ x∈l,x.length≤1048576):AFn 51 [.d (relD ar l)] [] (fun r os=>r=.d (relD ar l)∧os=[]):=by
 refine afn_of (rv:=[.cell 2 49]) tyT_ok Try.func51 rfl (by decide +kernel) Try.ntmps51 rfl (by simp) ?_
 repeat' (first | refine sq ?_ | refine stp ?_ | refine blk_o (by decide) ?_ | (apply cb;(focus (simp (disch:=(first | omega | (simp;omega))) only [go_sem,w64,rowsD];try exact rfl));refine cok ?_) | (refine rgW ?_;intro K hK) | (refine dA ?_;intro K hK) | (with_reducible refine hK _ ?_;clear hK K) | (refine stq ?_;simp (disch:=(first | omega | (simp;omega))) only [go_sem,w64,rowsD]) | refine as1 ?_ | fail)
 refine awp_loopw (fun m s=>∃ (k:Nat) (av:AV),m=l.length - k∧k≤l.length∧((k=0∧av=.nil)∨(0<k∧av=.buf 25 27 1 ((l.take k).map intsD)))∧s=mkS [(1,.ptr 1 0),(2,.ptr 2 0),(3,.ptr 3 0),(4,.d (.int (k:Nat)))] [(1,[.d (.int ar),.d (rowsD l)]),(2,[.d (.int 0),.nil]),(3,[.d (.int ar),av])]) ?_ ?_
 ·refine ⟨_,_,?_,0,.nil,rfl,Nat.zero_le _,.inl ⟨rfl,rfl⟩,rfl⟩
  exact sleA
 ·rintro m s ⟨k,av,rfl,hk,hav,rfl⟩
  repeat' (first | refine sq ?_ | refine stp ?_ | refine blk_o (by decide) ?_ | (apply cb;(focus (simp (disch:=(first | omega | (simp;omega))) only [go_sem,w64,rowsD];try exact rfl));refine cok ?_) | (refine rgT ?_;intro K hK) | (refine dA ?_;intro K hK) | (with_reducible refine hK _ ?_;clear hK K) | (refine stq ?_;simp (disch:=(first | omega | (simp;omega))) only [go_sem,w64,rowsD]) | refine as1 ?_ | fail)
  refine awp_if (p:=(k:Int)<l.length) (by simp (disch:=(first | omega | (simp;omega))) only [go_sem,w64]) ?_ ?_ <;> intro hc1
  ·have hk2:k<l.length:=by omega
   have g0:(l.map intsD).getD k (.bool false)=intsD (rx l k):=getDR hk2
   have hm:rx l k∈l:=by rw [rx_lt hk2];exact List.getElem_mem _
   have hb0:(rx l k).length≤16777215:=by have:=hr _ hm;omega
   rcases hav with ⟨rfl,rfl⟩ | ⟨hk0,rfl⟩
   ·repeat' (first | refine sq ?_ | refine stp ?_ | refine blk_o (by decide) ?_ | (apply cb;(focus (simp (disch:=(first | omega | (simp;omega))) only [go_sem,w64,rowsD,g0];try exact rfl));refine cok ?_) | (refine rgT ?_;intro K hK) | (refine dA ?_;intro K hK) | (with_reducible refine hK _ ?_;clear hK K) | (refine stq ?_;simp (disch:=(first | omega | (simp;omega))) only [go_sem,w64,rowsD,g0]) | refine as1 ?_ | fail)
    refine ⟨l.length - (0+1),_,by omega,?_,0+1,_,rfl,by omega,.inr ⟨by omega,rfl⟩,rfl⟩
    rw [rx_take hk2,map_snoc]
    exact sleA
   ·have hb:((l.take k).map intsD).length≤16777215:=by simp;omega
    repeat' (first | refine sq ?_ | refine stp ?_ | refine blk_o (by decide) ?_ | (apply cb;(focus (simp (disch:=(first | omega | (simp;omega))) only [go_sem,w64,rowsD,g0];try exact rfl));refine cok ?_) | (refine rgT ?_;intro K hK) | (refine dA ?_;intro K hK) | (with_reducible refine hK _ ?_;clear hK K) | (refine stq ?_;simp (disch:=(first | omega | (simp;omega))) only [go_sem,w64,rowsD,g0]) | refine as1 ?_ | fail)
    refine ⟨l.length - (k+1),_,by omega,?_,k+1,_,rfl,by omega,.inr ⟨by omega,rfl⟩,rfl⟩
    rw [rx_take hk2,map_snoc]
    exact sleA
  ·obtain rfl:k=l.length:=by omega
   rcases hav with ⟨h0,rfl⟩ | ⟨hk0,rfl⟩
   ·obtain rfl:=List.eq_nil_of_length_eq_zero h0
    repeat' (first | refine sq ?_ | refine stp ?_ | refine blk_o (by decide) ?_ | (apply cb;(focus (simp (disch:=(first | omega | (simp;omega))) only [go_sem,w64];try exact rfl));refine cok ?_) | (refine rgT ?_;intro K hK) | (refine dA ?_;intro K hK) | (with_reducible refine hK _ ?_;clear hK K) | (refine stq ?_;simp (disch:=(first | omega | (simp;omega))) only [go_sem,w64]) | refine as1 ?_ | fail)
    (refine endA (r:=.d (.agg [.int ar,.sl 1 []])) ?_)
    exact ⟨rfl,rfl⟩
   ·rw [List.take_length]
    repeat' (first | refine sq ?_ | refine stp ?_ | refine blk_o (by decide) ?_ | (apply cb;(focus (simp (disch:=(first | omega | (simp;omega))) only [go_sem,w64];try exact rfl));refine cok ?_) | (refine rgT ?_;intro K hK) | (refine dA ?_;intro K hK) | (with_reducible refine hK _ ?_;clear hK K) | (refine stq ?_;simp (disch:=(first | omega | (simp;omega))) only [go_sem,w64]) | refine as1 ?_ | fail)
    (refine endA (r:=.d (relD ar l)) ?_)
    exact ⟨rfl,rfl⟩
end Go.Proofs.Ytfobmfngbfbfdaa
namespace Go.Proofs.Ytfobmfngbfbfdaa
set_option linter.unusedSimpArgs false
set_option linter.unusedVariables false
attribute [local go_sem ↓] reduceIte
attribute [local go_sem] Nat.reduceEqDiff Nat.reduceLT Nat.reduceAdd Nat.reduceLeDiff Nat.reduceMul Nat.reduceBEq Nat.reduceSub reduceCtorEq Int.reduceLE Int.reduceNeg Int.reduceLT
open Go.RowKit
theorem l4RowA (n most:Int) (hn:n≤1000):AFn 66 [.ptr 0 0,.d (.int n),.d (.int most)] [curL] (fun r os=>∃ l:List Int,((l.length:Nat):Int)=max 0 n∧r=.d (intsD l)∧os=[curL]):=by
 refine afn_of (rv:=[.tmp 6]) tyT_ok Try.func66 rfl (by decide +kernel) Try.ntmps66 rfl (by simp) ?_
 repeat' (first | refine sq ?_ | refine stp ?_ | refine blk_o (by decide) ?_ | (apply cb;(focus (simp (disch:=(first | omega | (simp;omega))) only [go_sem,w64];try exact rfl));refine cok ?_) | (refine rgT ?_;intro K hK) | (refine dA ?_;intro K hK) | (with_reducible refine hK _ ?_;clear hK K) | (refine stq ?_;simp (disch:=(first | omega | (simp;omega))) only [go_sem,w64]) | refine as1 ?_ | fail)
 refine awp_loopw (fun m s=>∃ (l:List Int),m=(n - l.length).toNat∧((l.length:Nat):Int)≤max 0 n∧s=mkS [(0,.ptr 1000000 0),(1,.d (.int n)),(2,.d (.int most)),(7,.buf 8 3 1 (l.map .int))] [(1000000,curL)]) ?_ ?_
 ·refine ⟨_,_,?_,[],rfl,by simp;omega,rfl⟩
  exact sleA
 ·rintro m s ⟨l,rfl,hl,rfl⟩
  have hl2:l.length≤1000:=by omega
  repeat' (first | refine sq ?_ | refine stp ?_ | refine blk_o (by decide) ?_ | (apply cb;(focus (simp (disch:=(first | omega | (simp;omega))) only [go_sem,w64];try exact rfl));refine cok ?_) | (refine rgT ?_;intro K hK) | (refine dA ?_;intro K hK) | (with_reducible refine hK _ ?_;clear hK K) | (refine stq ?_;simp (disch:=(first | omega | (simp;omega))) only [go_sem,w64]) | refine as1 ?_ | fail)
  refine awp_if (p:=((l.length:Nat):Int)<n) (by simp (disch:=(first | omega | (simp;omega))) only [go_sem,w64]) ?_ ?_ <;> intro hc
  ·repeat' (first | refine sq ?_ | refine stp ?_ | refine blk_o (by decide) ?_ | (apply cb;(focus (simp (disch:=(first | omega | (simp;omega))) only [go_sem,w64];try exact rfl));refine cok ?_) | (refine rgT ?_;intro K hK) | (refine dA ?_;intro K hK) | (with_reducible refine hK _ ?_;clear hK K) | (refine stq ?_;simp (disch:=(first | omega | (simp;omega))) only [go_sem,w64]) | refine as1 ?_ | fail)
   (refine callL 1000000 (l1BelowA most) ?_)
   rintro r os ⟨x,hx,rfl,rfl⟩
   refine ⟨by decide,?_⟩
   repeat' (first | refine sq ?_ | refine stp ?_ | refine blk_o (by decide) ?_ | (apply cb;(focus (simp (disch:=(first | omega | (simp;omega))) only [go_sem,w64];try exact rfl));refine cok ?_) | (refine rgT ?_;intro K hK) | (refine dA ?_;intro K hK) | (with_reducible refine hK _ ?_;clear hK K) | (refine stq ?_;simp (disch:=(first | omega | (simp;omega))) only [go_sem,w64]) | refine as1 ?_ | fail)
   refine ⟨(n - ((l ++ [x]).length:Nat)).toNat,_,by simp;omega,?_,l ++ [x],rfl,by simp;omega,rfl⟩
   rw [List.map_append]
   exact sleA
  ·repeat' (first | refine sq ?_ | refine stp ?_ | refine blk_o (by decide) ?_ | (apply cb;(focus (simp (disch:=(first | omega | (simp;omega))) only [go_sem,w64];try exact rfl));refine cok ?_) | (refine rgT ?_;intro K hK) | (refine dA ?_;intro K hK) | (with_reducible refine hK _ ?_;clear hK K) | (refine stq ?_;simp (disch:=(first | omega | (simp;omega))) only [go_sem,w64]) | refine as1 ?_ | fail)
   refine end1 0 (.inr rfl) (by simp (disch:=(first | omega | (simp;omega))) only [go_sem,w64];rfl) (by simp (disch:=(first | omega | (simp;omega))) only [go_sem,w64];rfl) (r:=.d (intsD l)) (by simp (disch:=(first | omega | (simp;omega))) only [go_sem,w64];exact .refl _) ?_
   exact ⟨l,by omega,rfl,rfl⟩
def isRel (g:Nat) (ar:Int) (rows:List (List Int)) (x:AV):Prop:=(rows=[]∧x=.st [.d (.int ar),.nil])∨x=.st [.d (.int ar),.buf g 27 1 (rows.map intsD)]
theorem l5CopyS (ar:Int) (l:List (List Int)) (hl:l.length≤1048576) (hr:∀ x∈l,x.length≤1048576):AFn 51 [.d (relD ar l)] [] (fun r os=>isRel 0 ar l r∧os=[]):=by
 refine afn_of (rv:=[.cell 2 49]) tyS_ok Try.func51 rfl (by decide +kernel) Try.ntmps51 rfl (by simp) ?_
 repeat' (first | refine sq ?_ | refine stp ?_ | refine blk_o (by decide) ?_ | (apply cb;(focus (simp (disch:=(first | omega | (simp;omega))) only [go_sem,w64,rowsD];try exact rfl));refine cok ?_) | (refine rgW ?_;intro K hK) | (refine dA ?_;intro K hK) | (with_reducible refine hK _ ?_;clear hK K) | (refine stq ?_;simp (disch:=(first | omega | (simp;omega))) only [go_sem,w64,rowsD]) | refine as1 ?_ | fail)
 refine awp_loopw (fun m s=>∃ (k:Nat) (av:AV),m=l.length - k∧k≤l.length∧((k=0∧av=.nil)∨(0<k∧av=.buf 25 27 1 ((l.take k).map intsD)))∧s=mkS [(1,.ptr 1 0),(2,.ptr 2 0),(3,.ptr 3 0),(4,.d (.int (k:Nat)))] [(1,[.d (.int ar),.d (rowsD l)]),(2,[.d (.int 0),.nil]),(3,[.d (.int ar),av])]) ?_ ?_
 ·refine ⟨_,_,?_,0,.nil,rfl,Nat.zero_le _,.inl ⟨rfl,rfl⟩,rfl⟩
  exact sleA
 ·rintro m s ⟨k,av,rfl,hk,hav,rfl⟩
  repeat' (first | refine sq ?_ | refine stp ?_ | refine blk_o (by decide) ?_ | (apply cb;(focus (simp (disch:=(first | omega | (simp;omega))) only [go_sem,w64,rowsD];try exact rfl));refine cok ?_) | (refine rgT ?_;intro K hK) | (refine dA ?_;intro K hK) | (with_reducible refine hK _ ?_;clear hK K) | (refine stq ?_;simp (disch:=(first | omega | (simp;omega))) only [go_sem,w64,rowsD]) | refine as1 ?_ | fail)
  refine awp_if (p:=(k:Int)<l.length) (by simp (disch:=(first | omega | (simp;omega))) only [go_sem,w64]) ?_ ?_ <;> intro hc1
  ·have hk2:k<l.length:=by omega
   have g0:(l.map intsD).getD k (.bool false)=intsD (rx l k):=getDR hk2
   have hm:rx l k∈l:=by rw [rx_lt hk2];exact List.getElem_mem _
   have hb0:(rx l k).length≤16777215:=by have:=hr _ hm;omega
   rcases hav with ⟨rfl,rfl⟩ | ⟨hk0,rfl⟩
   ·repeat' (first | refine sq ?_ | refine stp ?_ | refine blk_o (by decide) ?_ | (apply cb;(focus (simp (disch:=(first | omega | (simp;omega))) only [go_sem,w64,rowsD,g0];try exact rfl));refine cok ?_) | (refine rgT ?_;intro K hK) | (refine dA ?_;intro K hK) | (with_reducible refine hK _ ?_;clear hK K) | (refine stq ?_;simp (disch:=(first | omega | (simp;omega))) only [go_sem,w64,rowsD,g0]) | refine as1 ?_ | fail)
    refine ⟨l.length - (0+1),_,by omega,?_,0+1,_,rfl,by omega,.inr ⟨by omega,rfl⟩,rfl⟩
    rw [rx_take hk2,map_snoc]
    exact sleA
   ·have hb:((l.take k).map intsD).length≤16777215:=by simp;omega
    repeat' (first | refine sq ?_ | refine stp ?_ | refine blk_o (by decide) ?_ | (apply cb;(focus (simp (disch:=(first | omega | (simp;omega))) only [go_sem,w64,rowsD,g0];try exact rfl));refine cok ?_) | (refine rgT ?_;intro K hK) | (refine dA ?_;intro K hK) | (with_reducible refine hK _ ?_;clear hK K) | (refine stq ?_;simp (disch:=(first | omega | (simp;omega))) only [go_sem,w64,rowsD,g0]) | refine as1 ?_ | fail)
    refine ⟨l.length - (k+1),_,by omega,?_,k+1,_,rfl,by omega,.inr ⟨by omega,rfl⟩,rfl⟩
    rw [rx_take hk2,map_snoc]
    exact sleA
  ·obtain rfl:k=l.length:=by omega
   rcases hav with ⟨h0,rfl⟩ | ⟨hk0,rfl⟩
   ·obtain rfl:=List.eq_nil_of_length_eq_zero h0
    repeat' (first | refine sq ?_ | refine stp ?_ | refine blk_o (by decide) ?_ | (apply cb;(focus (simp (disch:=(first | omega | (simp;omega))) only [go_sem,w64];try exact rfl));refine cok ?_) | (refine rgS ?_;intro K hK) | (refine dA ?_;intro K hK) | (with_reducible refine hK _ ?_;clear hK K) | (refine stq ?_;simp (disch:=(first | omega | (simp;omega))) only [go_sem,w64]) | refine as1 ?_ | fail)
    refine end0 0 (.inr rfl) (by simp (disch:=(first | omega | (simp;omega))) only [go_sem,w64];rfl) (r:=.st [.d (.int ar),.nil]) (by simp (disch:=(first | omega | (simp;omega))) only [go_sem,w64];exact .refl _) ⟨.inl ⟨rfl,rfl⟩,rfl⟩
   ·rw [List.take_length]
    repeat' (first | refine sq ?_ | refine stp ?_ | refine blk_o (by decide) ?_ | (apply cb;(focus (simp (disch:=(first | omega | (simp;omega))) only [go_sem,w64];try exact rfl));refine cok ?_) | (refine rgS ?_;intro K hK) | (refine dA ?_;intro K hK) | (with_reducible refine hK _ ?_;clear hK K) | (refine stq ?_;simp (disch:=(first | omega | (simp;omega))) only [go_sem,w64]) | refine as1 ?_ | fail)
    refine end0 25 (.inr rfl) (by simp (disch:=(first | omega | (simp;omega))) only [go_sem,w64];rfl) (r:=.st [.d (.int ar),.buf 0 27 1 (l.map intsD)]) (by simp (disch:=(first | omega | (simp;omega))) only [go_sem,w64];exact .refl _) ⟨.inr rfl,rfl⟩
end Go.Proofs.Ytfobmfngbfbfdaa
namespace Go.Proofs.Ytfobmfngbfbfdaa
set_option linter.unusedSimpArgs false
set_option linter.unusedVariables false
attribute [local go_sem ↓] reduceIte
attribute [local go_sem] Nat.reduceEqDiff Nat.reduceLT Nat.reduceAdd Nat.reduceLeDiff Nat.reduceMul Nat.reduceBEq Nat.reduceSub reduceCtorEq Int.reduceLE Int.reduceNeg Int.reduceLT
open Go.RowKit
set_option maxHeartbeats 4000000 in
theorem l5SortA (q:Nat) (hq:q≤1048576):∀ (N:Nat) (l:List (List Int)),l.length≤N→l.length≤1048576→SameL q l→AFn 74 [.d (rowsD l)] [] (fun r os=>r=.d (rowsD (srt l))∧os=[]):=by
 intro N
 induction N with
 | zero =>
  intro l hN hl hs
  have h0:((l.length:Nat):Int)<2↔True:=iff_of_true (by omega) trivial
  refine afn_of (rv:=[.tmp 2]) tyT_ok Try.func74 rfl (by decide +kernel) Try.ntmps74 rfl (by simp) ?_
  repeat' (first | refine sq ?_ | refine stp ?_ | refine blk_o (by decide) ?_ | (apply cb;(focus (simp (disch:=(first | omega | (simp;omega))) only [go_sem,w64,rowsD,h0];try exact rfl));refine cok ?_) | (refine rgT ?_;intro K hK) | (refine dA ?_;intro K hK) | (with_reducible refine hK _ ?_;clear hK K) | (refine stq ?_;simp (disch:=(first | omega | (simp;omega))) only [go_sem,w64,rowsD,h0]) | refine as1 ?_ | fail)
  rw [srt_small (by omega:l.length<2)]
  (refine endA (r:=.d (rowsD l)) ?_)
  exact ⟨rfl,rfl⟩
 | succ N ih =>
  intro l hN hl hs
  by_cases h2:l.length<2
  ·have h0:((l.length:Nat):Int)<2↔True:=iff_of_true (by omega) trivial
   refine afn_of (rv:=[.tmp 2]) tyT_ok Try.func74 rfl (by decide +kernel) Try.ntmps74 rfl (by simp) ?_
   repeat' (first | refine sq ?_ | refine stp ?_ | refine blk_o (by decide) ?_ | (apply cb;(focus (simp (disch:=(first | omega | (simp;omega))) only [go_sem,w64,rowsD,h0];try exact rfl));refine cok ?_) | (refine rgT ?_;intro K hK) | (refine dA ?_;intro K hK) | (with_reducible refine hK _ ?_;clear hK K) | (refine stq ?_;simp (disch:=(first | omega | (simp;omega))) only [go_sem,w64,rowsD,h0]) | refine as1 ?_ | fail)
   rw [srt_small h2]
   (refine endA (r:=.d (rowsD l)) ?_)
   exact ⟨rfl,rfl⟩
  ·have h0:((l.length:Nat):Int)<2↔False:=iff_of_false (by omega) id
   obtain ⟨m,hm⟩:∃ m,m=l.length / 2:=⟨_,rfl⟩
   have hw:IntKind.i64.wrap (((l.length:Nat):Int).tdiv 2)=(m:Nat):=by rw [tdiv_w (by omega)];omega
   have hc1:=ih (l.take m) (by simp;omega) (by simp;omega) (fun x hx=>hs x (List.mem_of_mem_take hx))
   have hc2:=ih (l.drop m) (by simp;omega) (by simp;omega) (fun x hx=>hs x (List.mem_of_mem_drop hx))
   refine afn_of (rv:=[.tmp 2]) tyT_ok Try.func74 rfl (by decide +kernel) Try.ntmps74 rfl (by simp) ?_
   repeat' (first | refine sq ?_ | refine stp ?_ | refine blk_o (by decide) ?_ | (apply cb;(focus (simp (disch:=(first | omega | (simp;omega))) only [go_sem,w64,rowsD,h0,hw,Int.toNat_zero,← List.map_take,← List.map_drop];try exact rfl));refine cok ?_) | (refine rgT ?_;intro K hK) | (refine dA ?_;intro K hK) | (with_reducible refine hK _ ?_;clear hK K) | (refine stq ?_;simp (disch:=(first | omega | (simp;omega))) only [go_sem,w64,rowsD,h0,hw,Int.toNat_zero,← List.map_take,← List.map_drop]) | refine as1 ?_ | fail)
   (first | refine callA (hc1) ?_ | refine callD (hc1) ?_ | refine callE (hc1) ?_ | refine callF (hc1) ?_ ?_)
   repeat' (first | refine sq ?_ | refine stp ?_ | refine blk_o (by decide) ?_ | (apply cb;(focus (simp (disch:=(first | omega | (simp;omega))) only [go_sem,w64,rowsD,h0,hw,Int.toNat_zero,← List.map_take,← List.map_drop,List.take_length];try exact rfl));refine cok ?_) | (refine rgT ?_;intro K hK) | (refine dA ?_;intro K hK) | (with_reducible refine hK _ ?_;clear hK K) | (refine stq ?_;simp (disch:=(first | omega | (simp;omega))) only [go_sem,w64,rowsD,h0,hw,Int.toNat_zero,← List.map_take,← List.map_drop,List.take_length]) | refine as1 ?_ | fail)
   (first | refine callA (hc2) ?_ | refine callD (hc2) ?_ | refine callE (hc2) ?_ | refine callF (hc2) ?_ ?_)
   repeat' (first | refine sq ?_ | refine stp ?_ | refine blk_o (by decide) ?_ | (apply cb;(focus (simp (disch:=(first | omega | (simp;omega))) only [go_sem,w64,rowsD,h0,hw,Int.toNat_zero,← List.map_take,← List.map_drop,List.take_length];try exact rfl));refine cok ?_) | (refine rgT ?_;intro K hK) | (refine dA ?_;intro K hK) | (with_reducible refine hK _ ?_;clear hK K) | (refine stq ?_;simp (disch:=(first | omega | (simp;omega))) only [go_sem,w64,rowsD,h0,hw,Int.toNat_zero,← List.map_take,← List.map_drop,List.take_length]) | refine as1 ?_ | fail)
   refine awp_loopw (fun mm s=>∃ (a b out:List (List Int)),mm=a.length+b.length∧Mrg2 q l a b out∧s=mkS [(4,.d (rowsD a)),(5,.d (rowsD b)),(6,.buf 24 27 1 (out.map intsD))] []) ?_ ?_
   ·refine ⟨_,_,?_,_,_,[],rfl,Mrg2.start hs m,rfl⟩
    exact sleA
   ·rintro mm s ⟨a,b,out,rfl,hM,rfl⟩
    have hlo:=hM.len
    cases a with
    | nil =>
     cases b with
     | nil =>
      have e:=hM.fin
      repeat' (first | refine sq ?_ | refine stp ?_ | refine blk_o (by decide) ?_ | (apply cb;(focus (simp (disch:=(first | omega | (simp;omega))) only [go_sem,w64,nz0];try exact rfl));refine cok ?_) | (refine rgT ?_;intro K hK) | (refine dA ?_;intro K hK) | (with_reducible refine hK _ ?_;clear hK K) | (refine stq ?_;simp (disch:=(first | omega | (simp;omega))) only [go_sem,w64,nz0]) | refine as1 ?_ | fail)
      rw [e]
      (refine endA (r:=.d (rowsD out)) ?_)
      exact ⟨rfl,rfl⟩
     | cons y b =>
      simp only [List.length_cons] at hlo
      have q1:(0:Int)<((b.length+1:Nat):Int)↔True:=iff_of_true (by omega) trivial
      have ho:(out.map intsD).length≤16777215:=by simp;omega
      rcases List.eq_nil_or_concat out with rfl | ⟨o,z,rfl⟩
      ·repeat' (first | refine sq ?_ | refine stp ?_ | refine blk_o (by decide) ?_ | (apply cb;(focus (simp (disch:=(first | omega | (simp;omega))) only [go_sem,w64,nz0,← List.map_take,List.take_length,Int.toNat_zero,Int.toNat_one,List.length_map,q1,intsD];try exact rfl));refine cok ?_) | (refine rgT ?_;intro K hK) | (refine dA ?_;intro K hK) | (with_reducible refine hK _ ?_;clear hK K) | (refine stq ?_;simp (disch:=(first | omega | (simp;omega))) only [go_sem,w64,nz0,← List.map_take,List.take_length,Int.toNat_zero,Int.toNat_one,List.length_map,q1,intsD]) | refine as1 ?_ | fail)
       refine ⟨b.length,_,by simp only [List.length_cons,List.length_nil];omega,?_,[],b,[] ++ [y],by simp only [List.length_cons,List.length_nil];try omega,(hM.swap.left (fun _ h=>by cases h) (by simp)).swap,rfl⟩
       (refine sle_mk ?_ ?_ <;> simp (disch:=(first | omega | (simp;omega))) only [go_sem,w64,nz0,← List.map_take,List.take_length,Int.toNat_zero,Int.toNat_one,List.length_map,q1,intsD] <;> exact leafs)
      ·rw [List.concat_eq_append] at hM ho hlo ⊢
       simp only [List.length_append,List.length_cons,List.length_nil] at hlo
       have z1:(((o ++ [z]).length:Nat):Int)=0↔False:=iff_of_false (by simp only [List.length_append,List.length_cons,List.length_nil];omega) id
       have z2:IntKind.i64.wrap ((((o ++ [z]).length:Nat):Int) - 1)=((o.length:Nat):Int):=by rw [w64 (by simp only [List.length_append,List.length_cons,List.length_nil];omega)];simp only [List.length_append,List.length_cons,List.length_nil];omega
       have z3:((o ++ [z]).map intsD).getD o.length (.bool false)=intsD z:=by rw [getDR (by simp),rx_last]
       have z4:((o.length:Nat):Int)<(((o ++ [z]).length:Nat):Int)↔True:=iff_of_true (by simp only [List.length_append,List.length_cons,List.length_nil];omega) trivial
       repeat' (first | refine sq ?_ | refine stp ?_ | refine blk_o (by decide) ?_ | (apply cb;(focus (simp (disch:=(first | omega | (simp;omega))) only [go_sem,w64,nz0,← List.map_take,List.take_length,Int.toNat_zero,Int.toNat_one,List.length_map,q1,z1,z2,z3,z4];try exact rfl));refine cok ?_) | (refine rgT ?_;intro K hK) | (refine dA ?_;intro K hK) | (with_reducible refine hK _ ?_;clear hK K) | (refine stq ?_;simp (disch:=(first | omega | (simp;omega))) only [go_sem,w64,nz0,← List.map_take,List.take_length,Int.toNat_zero,Int.toNat_one,List.length_map,q1,z1,z2,z3,z4]) | refine as1 ?_ | fail)
       (first | refine callA (specCmpRA z y) ?_ | refine callD (specCmpRA z y) ?_ | refine callE (specCmpRA z y) ?_ | refine callF (specCmpRA z y) ?_ ?_)
       by_cases hz:cmpR z y=0
       ·have hzt:cmpR z y=0↔True:=iff_of_true hz trivial
        repeat' (first | refine sq ?_ | refine stp ?_ | refine blk_o (by decide) ?_ | (apply cb;(focus (simp (disch:=(first | omega | (simp;omega))) only [go_sem,w64,nz0,← List.map_take,List.take_length,Int.toNat_zero,Int.toNat_one,List.length_map,q1,z1,z2,z3,z4,hzt];try exact rfl));refine cok ?_) | (refine rgT ?_;intro K hK) | (refine dA ?_;intro K hK) | (with_reducible refine hK _ ?_;clear hK K) | (refine stq ?_;simp (disch:=(first | omega | (simp;omega))) only [go_sem,w64,nz0,← List.map_take,List.take_length,Int.toNat_zero,Int.toNat_one,List.length_map,q1,z1,z2,z3,z4,hzt]) | refine as1 ?_ | fail)
        obtain rfl:=cmpR_zero.1 hz
        refine ⟨b.length,_,by simp only [List.length_cons,List.length_nil];omega,?_,[],b,o ++ [z],by simp only [List.length_cons,List.length_nil];try omega,(hM.swap.skip (by simp)).swap,rfl⟩
        (refine sle_mk ?_ ?_ <;> simp (disch:=(first | omega | (simp;omega))) only [go_sem,w64,nz0,← List.map_take,List.take_length,Int.toNat_zero,Int.toNat_one,List.length_map,q1] <;> exact leafs)
       ·have hzt:cmpR z y=0↔False:=iff_of_false hz id
        repeat' (first | refine sq ?_ | refine stp ?_ | refine blk_o (by decide) ?_ | (apply cb;(focus (simp (disch:=(first | omega | (simp;omega))) only [go_sem,w64,nz0,← List.map_take,List.take_length,Int.toNat_zero,Int.toNat_one,List.length_map,q1,z1,z2,z3,z4,hzt];try exact rfl));refine cok ?_) | (refine rgT ?_;intro K hK) | (refine dA ?_;intro K hK) | (with_reducible refine hK _ ?_;clear hK K) | (refine stq ?_;simp (disch:=(first | omega | (simp;omega))) only [go_sem,w64,nz0,← List.map_take,List.take_length,Int.toNat_zero,Int.toNat_one,List.length_map,q1,z1,z2,z3,z4,hzt]) | refine as1 ?_ | fail)
        refine ⟨b.length,_,by simp only [List.length_cons,List.length_nil];omega,?_,[],b,(o ++ [z]) ++ [y],by simp only [List.length_cons,List.length_nil];try omega,(hM.swap.left (fun _ h=>by cases h) (hM.swap.less hz)).swap,rfl⟩
        rw [map_snoc intsD (o ++ [z])]
        (refine sle_mk ?_ ?_ <;> simp (disch:=(first | omega | (simp;omega))) only [go_sem,w64,nz0,← List.map_take,List.take_length,Int.toNat_zero,Int.toNat_one,List.length_map,q1,intsD] <;> exact leafs)
    | cons x a =>
     simp only [List.length_cons] at hlo
     have q1:(0:Int)<((a.length+1:Nat):Int)↔True:=iff_of_true (by omega) trivial
     have q2:((a.length+1:Nat):Int)=0↔False:=iff_of_false (by omega) id
     cases b with
     | nil =>
      have ho:(out.map intsD).length≤16777215:=by simp;omega
      rcases List.eq_nil_or_concat out with rfl | ⟨o,z,rfl⟩
      ·repeat' (first | refine sq ?_ | refine stp ?_ | refine blk_o (by decide) ?_ | (apply cb;(focus (simp (disch:=(first | omega | (simp;omega))) only [go_sem,w64,nz0,← List.map_take,List.take_length,Int.toNat_zero,Int.toNat_one,List.length_map,q1,q2,intsD];try exact rfl));refine cok ?_) | (refine rgT ?_;intro K hK) | (refine dA ?_;intro K hK) | (with_reducible refine hK _ ?_;clear hK K) | (refine stq ?_;simp (disch:=(first | omega | (simp;omega))) only [go_sem,w64,nz0,← List.map_take,List.take_length,Int.toNat_zero,Int.toNat_one,List.length_map,q1,q2,intsD]) | refine as1 ?_ | fail)
       refine ⟨a.length,_,by simp only [List.length_cons,List.length_nil];omega,?_,a,[],[] ++ [x],by simp only [List.length_cons,List.length_nil];try omega,(hM.left (fun _ h=>by cases h) (by simp)),rfl⟩
       (refine sle_mk ?_ ?_ <;> simp (disch:=(first | omega | (simp;omega))) only [go_sem,w64,nz0,← List.map_take,List.take_length,Int.toNat_zero,Int.toNat_one,List.length_map,q1,q2,intsD] <;> exact leafs)
      ·rw [List.concat_eq_append] at hM ho hlo ⊢
       simp only [List.length_append,List.length_cons,List.length_nil] at hlo
       have z1:(((o ++ [z]).length:Nat):Int)=0↔False:=iff_of_false (by simp only [List.length_append,List.length_cons,List.length_nil];omega) id
       have z2:IntKind.i64.wrap ((((o ++ [z]).length:Nat):Int) - 1)=((o.length:Nat):Int):=by rw [w64 (by simp only [List.length_append,List.length_cons,List.length_nil];omega)];simp only [List.length_append,List.length_cons,List.length_nil];omega
       have z3:((o ++ [z]).map intsD).getD o.length (.bool false)=intsD z:=by rw [getDR (by simp),rx_last]
       have z4:((o.length:Nat):Int)<(((o ++ [z]).length:Nat):Int)↔True:=iff_of_true (by simp only [List.length_append,List.length_cons,List.length_nil];omega) trivial
       repeat' (first | refine sq ?_ | refine stp ?_ | refine blk_o (by decide) ?_ | (apply cb;(focus (simp (disch:=(first | omega | (simp;omega))) only [go_sem,w64,nz0,← List.map_take,List.take_length,Int.toNat_zero,Int.toNat_one,List.length_map,q1,q2,z1,z2,z3,z4];try exact rfl));refine cok ?_) | (refine rgT ?_;intro K hK) | (refine dA ?_;intro K hK) | (with_reducible refine hK _ ?_;clear hK K) | (refine stq ?_;simp (disch:=(first | omega | (simp;omega))) only [go_sem,w64,nz0,← List.map_take,List.take_length,Int.toNat_zero,Int.toNat_one,List.length_map,q1,q2,z1,z2,z3,z4]) | refine as1 ?_ | fail)
       (first | refine callA (specCmpRA z x) ?_ | refine callD (specCmpRA z x) ?_ | refine callE (specCmpRA z x) ?_ | refine callF (specCmpRA z x) ?_ ?_)
       by_cases hz:cmpR z x=0
       ·have hzt:cmpR z x=0↔True:=iff_of_true hz trivial
        repeat' (first | refine sq ?_ | refine stp ?_ | refine blk_o (by decide) ?_ | (apply cb;(focus (simp (disch:=(first | omega | (simp;omega))) only [go_sem,w64,nz0,← List.map_take,List.take_length,Int.toNat_zero,Int.toNat_one,List.length_map,q1,q2,z1,z2,z3,z4,hzt];try exact rfl));refine cok ?_) | (refine rgT ?_;intro K hK) | (refine dA ?_;intro K hK) | (with_reducible refine hK _ ?_;clear hK K) | (refine stq ?_;simp (disch:=(first | omega | (simp;omega))) only [go_sem,w64,nz0,← List.map_take,List.take_length,Int.toNat_zero,Int.toNat_one,List.length_map,q1,q2,z1,z2,z3,z4,hzt]) | refine as1 ?_ | fail)
        obtain rfl:=cmpR_zero.1 hz
        refine ⟨a.length,_,by simp only [List.length_cons,List.length_nil];omega,?_,a,[],o ++ [z],by simp only [List.length_cons,List.length_nil];try omega,(hM.skip (by simp)),rfl⟩
        (refine sle_mk ?_ ?_ <;> simp (disch:=(first | omega | (simp;omega))) only [go_sem,w64,nz0,← List.map_take,List.take_length,Int.toNat_zero,Int.toNat_one,List.length_map,q1,q2] <;> exact leafs)
       ·have hzt:cmpR z x=0↔False:=iff_of_false hz id
        repeat' (first | refine sq ?_ | refine stp ?_ | refine blk_o (by decide) ?_ | (apply cb;(focus (simp (disch:=(first | omega | (simp;omega))) only [go_sem,w64,nz0,← List.map_take,List.take_length,Int.toNat_zero,Int.toNat_one,List.length_map,q1,q2,z1,z2,z3,z4,hzt];try exact rfl));refine cok ?_) | (refine rgT ?_;intro K hK) | (refine dA ?_;intro K hK) | (with_reducible refine hK _ ?_;clear hK K) | (refine stq ?_;simp (disch:=(first | omega | (simp;omega))) only [go_sem,w64,nz0,← List.map_take,List.take_length,Int.toNat_zero,Int.toNat_one,List.length_map,q1,q2,z1,z2,z3,z4,hzt]) | refine as1 ?_ | fail)
        refine ⟨a.length,_,by simp only [List.length_cons,List.length_nil];omega,?_,a,[],(o ++ [z]) ++ [x],by simp only [List.length_cons,List.length_nil];try omega,(hM.left (fun _ h=>by cases h) (hM.less hz)),rfl⟩
        rw [map_snoc intsD (o ++ [z])]
        (refine sle_mk ?_ ?_ <;> simp (disch:=(first | omega | (simp;omega))) only [go_sem,w64,nz0,← List.map_take,List.take_length,Int.toNat_zero,Int.toNat_one,List.length_map,q1,q2,intsD] <;> exact leafs)
     | cons y b =>
      simp only [List.length_cons] at hlo
      have q3:(0:Int)<((b.length+1:Nat):Int)↔True:=iff_of_true (by omega) trivial
      have hrng:=cmpR_rng x y
      rcases (by omega:cmpR x y≤0∨0<cmpR x y) with hc | hc
      ·have r1:0<cmpR x y↔False:=iff_of_false (by omega) id
       have ho:(out.map intsD).length≤16777215:=by simp;omega
       rcases List.eq_nil_or_concat out with rfl | ⟨o,z,rfl⟩
       ·repeat' (first | refine sq ?_ | refine stp ?_ | refine blk_o (by decide) ?_ | (apply cb;(focus (simp (disch:=(first | omega | (simp;omega))) only [go_sem,w64,nz0,← List.map_take,List.take_length,Int.toNat_zero,Int.toNat_one,List.length_map,q1,q2,q3,r1,intsD];try exact rfl));refine cok ?_) | (refine rgT ?_;intro K hK) | (refine dA ?_;intro K hK) | (with_reducible refine hK _ ?_;clear hK K) | (refine stq ?_;simp (disch:=(first | omega | (simp;omega))) only [go_sem,w64,nz0,← List.map_take,List.take_length,Int.toNat_zero,Int.toNat_one,List.length_map,q1,q2,q3,r1,intsD]) | refine as1 ?_ | fail)
        (first | refine callA (specCmpRA x y) ?_ | refine callD (specCmpRA x y) ?_ | refine callE (specCmpRA x y) ?_ | refine callF (specCmpRA x y) ?_ ?_)
        repeat' (first | refine sq ?_ | refine stp ?_ | refine blk_o (by decide) ?_ | (apply cb;(focus (simp (disch:=(first | omega | (simp;omega))) only [go_sem,w64,nz0,← List.map_take,List.take_length,Int.toNat_zero,Int.toNat_one,List.length_map,q1,q2,q3,r1,intsD];try exact rfl));refine cok ?_) | (refine rgT ?_;intro K hK) | (refine dA ?_;intro K hK) | (with_reducible refine hK _ ?_;clear hK K) | (refine stq ?_;simp (disch:=(first | omega | (simp;omega))) only [go_sem,w64,nz0,← List.map_take,List.take_length,Int.toNat_zero,Int.toNat_one,List.length_map,q1,q2,q3,r1,intsD]) | refine as1 ?_ | fail)
        refine ⟨a.length+(b.length+1),_,by simp only [List.length_cons,List.length_nil];omega,?_,a,y :: b,[] ++ [x],by simp only [List.length_cons,List.length_nil];try omega,(hM.left (fun w h=>by cases h;exact hc) (by simp)),rfl⟩
        (refine sle_mk ?_ ?_ <;> simp (disch:=(first | omega | (simp;omega))) only [go_sem,w64,nz0,← List.map_take,List.take_length,Int.toNat_zero,Int.toNat_one,List.length_map,q1,q2,q3,r1,intsD] <;> exact leafs)
       ·rw [List.concat_eq_append] at hM ho hlo ⊢
        simp only [List.length_append,List.length_cons,List.length_nil] at hlo
        have z1:(((o ++ [z]).length:Nat):Int)=0↔False:=iff_of_false (by simp only [List.length_append,List.length_cons,List.length_nil];omega) id
        have z2:IntKind.i64.wrap ((((o ++ [z]).length:Nat):Int) - 1)=((o.length:Nat):Int):=by rw [w64 (by simp only [List.length_append,List.length_cons,List.length_nil];omega)];simp only [List.length_append,List.length_cons,List.length_nil];omega
        have z3:((o ++ [z]).map intsD).getD o.length (.bool false)=intsD z:=by rw [getDR (by simp),rx_last]
        have z4:((o.length:Nat):Int)<(((o ++ [z]).length:Nat):Int)↔True:=iff_of_true (by simp only [List.length_append,List.length_cons,List.length_nil];omega) trivial
        repeat' (first | refine sq ?_ | refine stp ?_ | refine blk_o (by decide) ?_ | (apply cb;(focus (simp (disch:=(first | omega | (simp;omega))) only [go_sem,w64,nz0,← List.map_take,List.take_length,Int.toNat_zero,Int.toNat_one,List.length_map,q1,q2,q3,r1,z1,z2,z3,z4];try exact rfl));refine cok ?_) | (refine rgT ?_;intro K hK) | (refine dA ?_;intro K hK) | (with_reducible refine hK _ ?_;clear hK K) | (refine stq ?_;simp (disch:=(first | omega | (simp;omega))) only [go_sem,w64,nz0,← List.map_take,List.take_length,Int.toNat_zero,Int.toNat_one,List.length_map,q1,q2,q3,r1,z1,z2,z3,z4]) | refine as1 ?_ | fail)
        (first | refine callA (specCmpRA x y) ?_ | refine callD (specCmpRA x y) ?_ | refine callE (specCmpRA x y) ?_ | refine callF (specCmpRA x y) ?_ ?_)
        repeat' (first | refine sq ?_ | refine stp ?_ | refine blk_o (by decide) ?_ | (apply cb;(focus (simp (disch:=(first | omega | (simp;omega))) only [go_sem,w64,nz0,← List.map_take,List.take_length,Int.toNat_zero,Int.toNat_one,List.length_map,q1,q2,q3,r1,z1,z2,z3,z4];try exact rfl));refine cok ?_) | (refine rgT ?_;intro K hK) | (refine dA ?_;intro K hK) | (with_reducible refine hK _ ?_;clear hK K) | (refine stq ?_;simp (disch:=(first | omega | (simp;omega))) only [go_sem,w64,nz0,← List.map_take,List.take_length,Int.toNat_zero,Int.toNat_one,List.length_map,q1,q2,q3,r1,z1,z2,z3,z4]) | refine as1 ?_ | fail)
        (first | refine callA (specCmpRA z x) ?_ | refine callD (specCmpRA z x) ?_ | refine callE (specCmpRA z x) ?_ | refine callF (specCmpRA z x) ?_ ?_)
        by_cases hz:cmpR z x=0
        ·have hzt:cmpR z x=0↔True:=iff_of_true hz trivial
         repeat' (first | refine sq ?_ | refine stp ?_ | refine blk_o (by decide) ?_ | (apply cb;(focus (simp (disch:=(first | omega | (simp;omega))) only [go_sem,w64,nz0,← List.map_take,List.take_length,Int.toNat_zero,Int.toNat_one,List.length_map,q1,q2,q3,r1,z1,z2,z3,z4,hzt];try exact rfl));refine cok ?_) | (refine rgT ?_;intro K hK) | (refine dA ?_;intro K hK) | (with_reducible refine hK _ ?_;clear hK K) | (refine stq ?_;simp (disch:=(first | omega | (simp;omega))) only [go_sem,w64,nz0,← List.map_take,List.take_length,Int.toNat_zero,Int.toNat_one,List.length_map,q1,q2,q3,r1,z1,z2,z3,z4,hzt]) | refine as1 ?_ | fail)
         obtain rfl:=cmpR_zero.1 hz
         refine ⟨a.length+(b.length+1),_,by simp only [List.length_cons,List.length_nil];omega,?_,a,y :: b,o ++ [z],by simp only [List.length_cons,List.length_nil];try omega,(hM.skip (by simp)),rfl⟩
         (refine sle_mk ?_ ?_ <;> simp (disch:=(first | omega | (simp;omega))) only [go_sem,w64,nz0,← List.map_take,List.take_length,Int.toNat_zero,Int.toNat_one,List.length_map,q1,q2,q3,r1] <;> exact leafs)
        ·have hzt:cmpR z x=0↔False:=iff_of_false hz id
         repeat' (first | refine sq ?_ | refine stp ?_ | refine blk_o (by decide) ?_ | (apply cb;(focus (simp (disch:=(first | omega | (simp;omega))) only [go_sem,w64,nz0,← List.map_take,List.take_length,Int.toNat_zero,Int.toNat_one,List.length_map,q1,q2,q3,r1,z1,z2,z3,z4,hzt];try exact rfl));refine cok ?_) | (refine rgT ?_;intro K hK) | (refine dA ?_;intro K hK) | (with_reducible refine hK _ ?_;clear hK K) | (refine stq ?_;simp (disch:=(first | omega | (simp;omega))) only [go_sem,w64,nz0,← List.map_take,List.take_length,Int.toNat_zero,Int.toNat_one,List.length_map,q1,q2,q3,r1,z1,z2,z3,z4,hzt]) | refine as1 ?_ | fail)
         refine ⟨a.length+(b.length+1),_,by simp only [List.length_cons,List.length_nil];omega,?_,a,y :: b,(o ++ [z]) ++ [x],by simp only [List.length_cons,List.length_nil];try omega,(hM.left (fun w h=>by cases h;exact hc) (hM.less hz)),rfl⟩
         rw [map_snoc intsD (o ++ [z])]
         (refine sle_mk ?_ ?_ <;> simp (disch:=(first | omega | (simp;omega))) only [go_sem,w64,nz0,← List.map_take,List.take_length,Int.toNat_zero,Int.toNat_one,List.length_map,q1,q2,q3,r1,intsD] <;> exact leafs)
      ·have r1:0<cmpR x y↔True:=iff_of_true (by omega) trivial
       have ho:(out.map intsD).length≤16777215:=by simp;omega
       rcases List.eq_nil_or_concat out with rfl | ⟨o,z,rfl⟩
       ·repeat' (first | refine sq ?_ | refine stp ?_ | refine blk_o (by decide) ?_ | (apply cb;(focus (simp (disch:=(first | omega | (simp;omega))) only [go_sem,w64,nz0,← List.map_take,List.take_length,Int.toNat_zero,Int.toNat_one,List.length_map,q1,q2,q3,r1,intsD];try exact rfl));refine cok ?_) | (refine rgT ?_;intro K hK) | (refine dA ?_;intro K hK) | (with_reducible refine hK _ ?_;clear hK K) | (refine stq ?_;simp (disch:=(first | omega | (simp;omega))) only [go_sem,w64,nz0,← List.map_take,List.take_length,Int.toNat_zero,Int.toNat_one,List.length_map,q1,q2,q3,r1,intsD]) | refine as1 ?_ | fail)
        (first | refine callA (specCmpRA x y) ?_ | refine callD (specCmpRA x y) ?_ | refine callE (specCmpRA x y) ?_ | refine callF (specCmpRA x y) ?_ ?_)
        repeat' (first | refine sq ?_ | refine stp ?_ | refine blk_o (by decide) ?_ | (apply cb;(focus (simp (disch:=(first | omega | (simp;omega))) only [go_sem,w64,nz0,← List.map_take,List.take_length,Int.toNat_zero,Int.toNat_one,List.length_map,q1,q2,q3,r1,intsD];try exact rfl));refine cok ?_) | (refine rgT ?_;intro K hK) | (refine dA ?_;intro K hK) | (with_reducible refine hK _ ?_;clear hK K) | (refine stq ?_;simp (disch:=(first | omega | (simp;omega))) only [go_sem,w64,nz0,← List.map_take,List.take_length,Int.toNat_zero,Int.toNat_one,List.length_map,q1,q2,q3,r1,intsD]) | refine as1 ?_ | fail)
        refine ⟨a.length+1+b.length,_,by simp only [List.length_cons,List.length_nil];omega,?_,x :: a,b,[] ++ [y],by simp only [List.length_cons,List.length_nil];try omega,(hM.swap.left (fun w h=>by cases h;have:=cmpR_anti x y;omega) (by simp)).swap,rfl⟩
        (refine sle_mk ?_ ?_ <;> simp (disch:=(first | omega | (simp;omega))) only [go_sem,w64,nz0,← List.map_take,List.take_length,Int.toNat_zero,Int.toNat_one,List.length_map,q1,q2,q3,r1,intsD] <;> exact leafs)
       ·rw [List.concat_eq_append] at hM ho hlo ⊢
        simp only [List.length_append,List.length_cons,List.length_nil] at hlo
        have z1:(((o ++ [z]).length:Nat):Int)=0↔False:=iff_of_false (by simp only [List.length_append,List.length_cons,List.length_nil];omega) id
        have z2:IntKind.i64.wrap ((((o ++ [z]).length:Nat):Int) - 1)=((o.length:Nat):Int):=by rw [w64 (by simp only [List.length_append,List.length_cons,List.length_nil];omega)];simp only [List.length_append,List.length_cons,List.length_nil];omega
        have z3:((o ++ [z]).map intsD).getD o.length (.bool false)=intsD z:=by rw [getDR (by simp),rx_last]
        have z4:((o.length:Nat):Int)<(((o ++ [z]).length:Nat):Int)↔True:=iff_of_true (by simp only [List.length_append,List.length_cons,List.length_nil];omega) trivial
        repeat' (first | refine sq ?_ | refine stp ?_ | refine blk_o (by decide) ?_ | (apply cb;(focus (simp (disch:=(first | omega | (simp;omega))) only [go_sem,w64,nz0,← List.map_take,List.take_length,Int.toNat_zero,Int.toNat_one,List.length_map,q1,q2,q3,r1,z1,z2,z3,z4];try exact rfl));refine cok ?_) | (refine rgT ?_;intro K hK) | (refine dA ?_;intro K hK) | (with_reducible refine hK _ ?_;clear hK K) | (refine stq ?_;simp (disch:=(first | omega | (simp;omega))) only [go_sem,w64,nz0,← List.map_take,List.take_length,Int.toNat_zero,Int.toNat_one,List.length_map,q1,q2,q3,r1,z1,z2,z3,z4]) | refine as1 ?_ | fail)
        (first | refine callA (specCmpRA x y) ?_ | refine callD (specCmpRA x y) ?_ | refine callE (specCmpRA x y) ?_ | refine callF (specCmpRA x y) ?_ ?_)
        repeat' (first | refine sq ?_ | refine stp ?_ | refine blk_o (by decide) ?_ | (apply cb;(focus (simp (disch:=(first | omega | (simp;omega))) only [go_sem,w64,nz0,← List.map_take,List.take_length,Int.toNat_zero,Int.toNat_one,List.length_map,q1,q2,q3,r1,z1,z2,z3,z4];try exact rfl));refine cok ?_) | (refine rgT ?_;intro K hK) | (refine dA ?_;intro K hK) | (with_reducible refine hK _ ?_;clear hK K) | (refine stq ?_;simp (disch:=(first | omega | (simp;omega))) only [go_sem,w64,nz0,← List.map_take,List.take_length,Int.toNat_zero,Int.toNat_one,List.length_map,q1,q2,q3,r1,z1,z2,z3,z4]) | refine as1 ?_ | fail)
        (first | refine callA (specCmpRA z y) ?_ | refine callD (specCmpRA z y) ?_ | refine callE (specCmpRA z y) ?_ | refine callF (specCmpRA z y) ?_ ?_)
        by_cases hz:cmpR z y=0
        ·have hzt:cmpR z y=0↔True:=iff_of_true hz trivial
         repeat' (first | refine sq ?_ | refine stp ?_ | refine blk_o (by decide) ?_ | (apply cb;(focus (simp (disch:=(first | omega | (simp;omega))) only [go_sem,w64,nz0,← List.map_take,List.take_length,Int.toNat_zero,Int.toNat_one,List.length_map,q1,q2,q3,r1,z1,z2,z3,z4,hzt];try exact rfl));refine cok ?_) | (refine rgT ?_;intro K hK) | (refine dA ?_;intro K hK) | (with_reducible refine hK _ ?_;clear hK K) | (refine stq ?_;simp (disch:=(first | omega | (simp;omega))) only [go_sem,w64,nz0,← List.map_take,List.take_length,Int.toNat_zero,Int.toNat_one,List.length_map,q1,q2,q3,r1,z1,z2,z3,z4,hzt]) | refine as1 ?_ | fail)
         obtain rfl:=cmpR_zero.1 hz
         refine ⟨a.length+1+b.length,_,by simp only [List.length_cons,List.length_nil];omega,?_,x :: a,b,o ++ [z],by simp only [List.length_cons,List.length_nil];try omega,(hM.swap.skip (by simp)).swap,rfl⟩
         (refine sle_mk ?_ ?_ <;> simp (disch:=(first | omega | (simp;omega))) only [go_sem,w64,nz0,← List.map_take,List.take_length,Int.toNat_zero,Int.toNat_one,List.length_map,q1,q2,q3,r1] <;> exact leafs)
        ·have hzt:cmpR z y=0↔False:=iff_of_false hz id
         repeat' (first | refine sq ?_ | refine stp ?_ | refine blk_o (by decide) ?_ | (apply cb;(focus (simp (disch:=(first | omega | (simp;omega))) only [go_sem,w64,nz0,← List.map_take,List.take_length,Int.toNat_zero,Int.toNat_one,List.length_map,q1,q2,q3,r1,z1,z2,z3,z4,hzt];try exact rfl));refine cok ?_) | (refine rgT ?_;intro K hK) | (refine dA ?_;intro K hK) | (with_reducible refine hK _ ?_;clear hK K) | (refine stq ?_;simp (disch:=(first | omega | (simp;omega))) only [go_sem,w64,nz0,← List.map_take,List.take_length,Int.toNat_zero,Int.toNat_one,List.length_map,q1,q2,q3,r1,z1,z2,z3,z4,hzt]) | refine as1 ?_ | fail)
         refine ⟨a.length+1+b.length,_,by simp only [List.length_cons,List.length_nil];omega,?_,x :: a,b,(o ++ [z]) ++ [y],by simp only [List.length_cons,List.length_nil];try omega,(hM.swap.left (fun w h=>by cases h;have:=cmpR_anti x y;omega) (hM.swap.less hz)).swap,rfl⟩
         rw [map_snoc intsD (o ++ [z])]
         (refine sle_mk ?_ ?_ <;> simp (disch:=(first | omega | (simp;omega))) only [go_sem,w64,nz0,← List.map_take,List.take_length,Int.toNat_zero,Int.toNat_one,List.length_map,q1,q2,q3,r1,intsD] <;> exact leafs)
end Go.Proofs.Ytfobmfngbfbfdaa
