/- Lemmas for the proof of FnCoverDuality, part 23 of 26: no condition of their own. -/
import Derived.Test.YtkohkoiegmcghaaDoorJ18
import Derived.Test.YtkohkoiegmcghaaDoorJ20
namespace Go.Proofs.YtkohkoiegmcghaaDoor
set_option linter.unusedSimpArgs false
set_option linter.unusedVariables false
attribute [local go_sem ↓] reduceIte
attribute [local go_sem] Nat.reduceEqDiff Nat.reduceLT Nat.reduceAdd Nat.reduceLeDiff Nat.reduceMul Nat.reduceBEq Nat.reduceSub reduceCtorEq Int.reduceLE Int.reduceNeg Int.reduceLT
open Go.RowKit
def bs (l:List UInt8):ByteArray:=⟨l.toArray⟩
theorem bs_size (l:List UInt8):(bs l).size=l.length:=by simp [bs,ByteArray.size]
theorem bs_app (a b:List UInt8):bs a ++ bs b=bs (a ++ b):=by
 apply ByteArray.ext
 simp [bs]
theorem bs_ext (l:List UInt8) (i j:Nat):(bs l).extract i j=bs ((l.take j).drop i):=by
 apply ByteArray.ext
 simp [bs,ByteArray.data_extract,List.drop_take]
theorem bs_of (b:ByteArray):b=bs b.data.toList:=by
 apply ByteArray.ext
 simp [bs]
theorem bs_at (l:List UInt8) (i:Nat):bAt (bs l) i=((l.getD i 0).toNat:Int):=by
 simp [bAt,bs,List.getD]
theorem toList_loop (l:List UInt8):∀ (n i:Nat) (r:List UInt8),l.length - i=n→ByteArray.toList.loop (bs l) i r=r.reverse ++ l.drop i:=by
 intro n
 induction n with
 | zero =>
  intro i r h
  rw [ByteArray.toList.loop]
  have hi:¬ i<(bs l).size:=by rw [bs_size];omega
  rw [if_neg hi,List.drop_eq_nil_of_le (by omega)]
  simp
 | succ n ih =>
  intro i r h
  rw [ByteArray.toList.loop]
  have hl:i<l.length:=by omega
  have hi:i<(bs l).size:=by rw [bs_size];exact hl
  rw [if_pos hi,ih (i+1) _ (by omega)]
  have e:(bs l).get! i=l[i]'hl:=by simp [bs,ByteArray.get!,hl]
  rw [e]
  simp only [List.reverse_cons,List.append_assoc,List.singleton_append]
  rw [List.getElem_cons_drop hl]
theorem bs_list (l:List UInt8):(bs l).toList=l:=by
 unfold ByteArray.toList
 rw [toList_loop l _ 0 [] rfl]
 simp
theorem strEq_bs (a b:List UInt8):strEq (bs a) (bs b)=(a == b):=by unfold strEq;rw [bs_list,bs_list]
def vn (v:Int):List UInt8:=if 0≤v∧v≤4 then [([88,89,90,85,86]:List UInt8).getD v.toNat 0] else []
def varsF (l:List Int):List UInt8:=[40] ++ ((l.map vn).flatten ++ [41])
def letF (c:UInt8) (k:Nat):List Int:=((List.range k).filter fun (v:Nat)=>vn (v:Int) == [c]).map fun (v:Nat)=>(v:Int)
def listF (s:List UInt8):List Int:=(s.map fun c=>letF c 5).flatten
def cutGo (c:UInt8):List UInt8→List UInt8→List (List UInt8)
 | cur,[]=>[cur]
 | cur,x :: l=>if x=c then cur :: cutGo c [] l else cutGo c (cur ++ [x]) l
def cutF (s:List UInt8) (c:UInt8):List (List UInt8):=cutGo c [] s
theorem specInB (x lo hi:Int):AFn 41 [.d (.int x),.d (.int lo),.d (.int hi)] [] (fun r os=>r=.d (.bool (decide (lo≤x∧x≤hi)))∧os=[]):=by
 refine afn_of (rv:=[.tmp 6]) tyT_ok Tryd.func41 rfl (by decide +kernel) Tryd.ntmps41 rfl (by simp) ?_
 by_cases h1:lo≤x
 ·have h1t:lo≤x↔True:=iff_of_true h1 trivial
  repeat' (first | refine sq ?_ | refine stp ?_ | refine blk_o (by decide) ?_ | (apply cb;(focus (simp (disch:=(first | omega | (simp;omega))) only [go_sem,w64,h1t];try exact rfl));refine cok ?_) | (refine rgT ?_;intro K hK) | (refine dA ?_;intro K hK) | (with_reducible refine hK _ ?_;clear hK K) | (refine stq ?_;simp (disch:=(first | omega | (simp;omega))) only [go_sem,w64,h1t]) | refine as1 ?_ | fail)
  (refine endA (r:=.d (.bool (decide (x≤hi)))) ?_)
  exact ⟨by simp [h1],rfl⟩
 ·have h1t:lo≤x↔False:=iff_of_false h1 id
  repeat' (first | refine sq ?_ | refine stp ?_ | refine blk_o (by decide) ?_ | (apply cb;(focus (simp (disch:=(first | omega | (simp;omega))) only [go_sem,w64,h1t];try exact rfl));refine cok ?_) | (refine rgT ?_;intro K hK) | (refine dA ?_;intro K hK) | (with_reducible refine hK _ ?_;clear hK K) | (refine stq ?_;simp (disch:=(first | omega | (simp;omega))) only [go_sem,w64,h1t]) | refine as1 ?_ | fail)
  (refine endA (r:=.d (.bool false)) ?_)
  exact ⟨by simp [h1],rfl⟩
theorem vn_len (v:Int):(vn v).length≤1:=by unfold vn;split <;> simp
theorem varNameA (v:Int):AFn 81 [.d (.int v)] [] (fun r os=>r=.d (.str (bs (vn v)))∧os=[]):=by
 refine afn_of (rv:=[.tmp 2]) tyT_ok Tryd.func81 rfl (by decide +kernel) Tryd.ntmps81 rfl (by simp) ?_
 repeat' (first | refine sq ?_ | refine stp ?_ | refine blk_o (by decide) ?_ | (apply cb;(focus (simp (disch:=(first | omega | (simp;omega))) only [go_sem,w64];try exact rfl));refine cok ?_) | (refine rgT ?_;intro K hK) | (refine dA ?_;intro K hK) | (with_reducible refine hK _ ?_;clear hK K) | (refine stq ?_;simp (disch:=(first | omega | (simp;omega))) only [go_sem,w64]) | refine as1 ?_ | fail)
 (first | refine callA (specInB v 0 4) ?_ | refine callD (specInB v 0 4) ?_ | refine callE (specInB v 0 4) ?_ | refine callF (specInB v 0 4) ?_ ?_)
 by_cases h:0≤v∧v≤4
 ·have ht:(0≤v∧v≤4)↔True:=iff_of_true h trivial
  have w1:IntKind.i64.wrap (v+1)=v+1:=w64 (by omega)
  have hx:(ByteArray.mk #[88,89,90,85,86]).extract v.toNat (v+1).toNat=bs (vn v):=by
   have h5:v=0∨v=1∨v=2∨v=3∨v=4:=by omega
   rcases h5 with rfl | rfl | rfl | rfl | rfl <;> rfl
  have hsz:(ByteArray.mk #[88,89,90,85,86]).size=5:=rfl
  repeat' (first | refine sq ?_ | refine stp ?_ | refine blk_o (by decide) ?_ | (apply cb;(focus (simp (disch:=(first | omega | (simp;omega))) only [go_sem,w64,ht,w1,hx,hsz];try exact rfl));refine cok ?_) | (refine rgT ?_;intro K hK) | (refine dA ?_;intro K hK) | (with_reducible refine hK _ ?_;clear hK K) | (refine stq ?_;simp (disch:=(first | omega | (simp;omega))) only [go_sem,w64,ht,w1,hx,hsz]) | refine as1 ?_ | fail)
  (refine endA (r:=.d (.str (bs (vn v)))) ?_)
  exact ⟨rfl,rfl⟩
 ·have ht:(0≤v∧v≤4)↔False:=iff_of_false h id
  repeat' (first | refine sq ?_ | refine stp ?_ | refine blk_o (by decide) ?_ | (apply cb;(focus (simp (disch:=(first | omega | (simp;omega))) only [go_sem,w64,ht];try exact rfl));refine cok ?_) | (refine rgT ?_;intro K hK) | (refine dA ?_;intro K hK) | (with_reducible refine hK _ ?_;clear hK K) | (refine stq ?_;simp (disch:=(first | omega | (simp;omega))) only [go_sem,w64,ht]) | refine as1 ?_ | fail)
  rw [show bs (vn v)=ByteArray.mk #[] from by unfold vn;rw [if_neg h];rfl]
  (refine endA (r:=.d (.str (ByteArray.mk #[]))) ?_)
  exact ⟨rfl,rfl⟩
theorem vns_len:∀ l:List Int,((l.map vn).flatten).length≤l.length
 | []=>by simp
 | x :: l=>by have:=vns_len l;have:=vn_len x;simp only [List.map_cons,List.flatten_cons,List.length_append,List.length_cons];omega
theorem l7VarsA (l:List Int) (hl:l.length≤1000):AFn 89 [.d (intsD l)] [] (fun r os=>r=.d (.str (bs (varsF l)))∧os=[]):=by
 refine afn_of (rv:=[.tmp 2]) tyT_ok Tryd.func89 rfl (by decide +kernel) Tryd.ntmps89 rfl (by simp) ?_
 have c40:ByteArray.mk #[40]=bs [40]:=rfl
 have c41:ByteArray.mk #[41]=bs [41]:=rfl
 repeat' (first | refine sq ?_ | refine stp ?_ | refine blk_o (by decide) ?_ | (apply cb;(focus (simp (disch:=(first | omega | (simp;omega))) only [go_sem,w64,intsD,c40];try exact rfl));refine cok ?_) | (refine rgT ?_;intro K hK) | (refine dA ?_;intro K hK) | (with_reducible refine hK _ ?_;clear hK K) | (refine stq ?_;simp (disch:=(first | omega | (simp;omega))) only [go_sem,w64,intsD,c40]) | refine as1 ?_ | fail)
 refine awp_loopw (fun m s=>∃ (k:Nat) (t:List UInt8),m=l.length - k∧k≤l.length∧t=[40] ++ ((l.take k).map vn).flatten∧s=mkS [(0,.d (intsD l)),(3,.d (.str (bs t))),(4,.d (.int (k:Nat)))] []) ?_ ?_
 ·refine ⟨_,_,?_,0,[40],rfl,Nat.zero_le _,rfl,rfl⟩
  exact sleA
 ·rintro m s ⟨k,t,rfl,hk,ht,rfl⟩
  have htl:t.length≤1001:=by
   have:=vns_len (l.take k)
   rw [ht];simp only [List.length_append,List.length_singleton]
   have:(l.take k).length≤1000:=by simp;omega
   omega
  repeat' (first | refine sq ?_ | refine stp ?_ | refine blk_o (by decide) ?_ | (apply cb;(focus (simp (disch:=(first | omega | (simp;omega))) only [go_sem,w64,intsD];try exact rfl));refine cok ?_) | (refine rgT ?_;intro K hK) | (refine dA ?_;intro K hK) | (with_reducible refine hK _ ?_;clear hK K) | (refine stq ?_;simp (disch:=(first | omega | (simp;omega))) only [go_sem,w64,intsD]) | refine as1 ?_ | fail)
  refine awp_if (p:=(k:Int)<l.length) (by simp (disch:=(first | omega | (simp;omega))) only [go_sem,w64]) ?_ ?_ <;> intro hc
  ·have hk2:k<l.length:=by omega
   have g0:(l.map DV.int).getD k (.bool false)=.int (ix l k):=getDI hk2
   have hv:=vn_len (ix l k)
   repeat' (first | refine sq ?_ | refine stp ?_ | refine blk_o (by decide) ?_ | (apply cb;(focus (simp (disch:=(first | omega | (simp;omega))) only [go_sem,w64,g0];try exact rfl));refine cok ?_) | (refine rgT ?_;intro K hK) | (refine dA ?_;intro K hK) | (with_reducible refine hK _ ?_;clear hK K) | (refine stq ?_;simp (disch:=(first | omega | (simp;omega))) only [go_sem,w64,g0]) | refine as1 ?_ | fail)
   (first | refine callA (varNameA (ix l k)) ?_ | refine callD (varNameA (ix l k)) ?_ | refine callE (varNameA (ix l k)) ?_ | refine callF (varNameA (ix l k)) ?_ ?_)
   repeat' (first | refine sq ?_ | refine stp ?_ | refine blk_o (by decide) ?_ | (apply cb;(focus (simp (disch:=(first | omega | (simp;omega))) only [go_sem,w64,bs_app,bs_size];try exact rfl));refine cok ?_) | (refine rgT ?_;intro K hK) | (refine dA ?_;intro K hK) | (with_reducible refine hK _ ?_;clear hK K) | (refine stq ?_;simp (disch:=(first | omega | (simp;omega))) only [go_sem,w64,bs_app,bs_size]) | refine as1 ?_ | fail)
   refine ⟨l.length - (k+1),_,by omega,?_,k+1,t ++ vn (ix l k),rfl,by omega,?_,rfl⟩
   ·exact sleA
   ·rw [ht,List.take_succ_eq_append_getElem hk2,List.map_append,List.flatten_append,ix_lt hk2]
    simp
  ·obtain rfl:k=l.length:=by omega
   rw [List.take_length] at ht
   repeat' (first | refine sq ?_ | refine stp ?_ | refine blk_o (by decide) ?_ | (apply cb;(focus (simp (disch:=(first | omega | (simp;omega))) only [go_sem,w64,c41,bs_app,bs_size];try exact rfl));refine cok ?_) | (refine rgT ?_;intro K hK) | (refine dA ?_;intro K hK) | (with_reducible refine hK _ ?_;clear hK K) | (refine stq ?_;simp (disch:=(first | omega | (simp;omega))) only [go_sem,w64,c41,bs_app,bs_size]) | refine as1 ?_ | fail)
   (refine endA (r:=.d (.str (bs (t ++ [41])))) ?_)
   exact ⟨by rw [ht];simp [varsF],rfl⟩
theorem letF_snoc (c:UInt8) (j:Nat):letF c (j+1)=letF c j ++ (if (vn (j:Int) == [c])=true then [(j:Int)] else []):=by
 unfold letF
 rw [List.range_succ,List.filter_append,List.map_append]
 congr 1
 by_cases h:(vn (j:Int) == [c])=true
 ·simp [h]
 ·simp [h]
theorem letF_len (c:UInt8) (j:Nat):(letF c j).length≤j:=by
 unfold letF
 rw [List.length_map]
 exact Nat.le_trans (List.length_filter_le ..) (by simp)
theorem listF_len:∀ s:List UInt8,(listF s).length≤5*s.length
 | []=>by simp [listF]
 | c :: s=>by
  have h1:=letF_len c 5
  have h2:=listF_len s
  simp only [listF] at h2
  simp only [listF,List.map_cons,List.flatten_cons,List.length_append,List.length_cons]
  omega
theorem l7ListA (s0:List UInt8) (hl:s0.length≤1000):AFn 80 [.d (.str (bs s0))] [] (fun r os=>r=.buf 0 3 1 ((listF s0).map .int)∧os=[]):=by
 refine afn_of (rv:=[.tmp 2]) tyT_ok Tryd.func80 rfl (by decide +kernel) Tryd.ntmps80 rfl (by simp) ?_
 repeat' (first | refine sq ?_ | refine stp ?_ | refine blk_o (by decide) ?_ | (apply cb;(focus (simp (disch:=(first | omega | (simp;omega))) only [go_sem,w64];try exact rfl));refine cok ?_) | (refine rgT ?_;intro K hK) | (refine dA ?_;intro K hK) | (with_reducible refine hK _ ?_;clear hK K) | (refine stq ?_;simp (disch:=(first | omega | (simp;omega))) only [go_sem,w64]) | refine as1 ?_ | fail)
 refine awp_loopw (fun m s=>∃ (k:Nat) (out:List Int),m=s0.length - k∧k≤s0.length∧out=listF (s0.take k)∧s=mkS [(0,.d (.str (bs s0))),(3,.buf 6 3 1 (out.map .int)),(4,.d (.int (k:Nat)))] []) ?_ ?_
 ·refine ⟨_,_,?_,0,[],rfl,Nat.zero_le _,rfl,rfl⟩
  exact sleA
 ·rintro m s ⟨k,out,rfl,hk,hout,rfl⟩
  have hol:out.length≤5000:=by
   have:=listF_len (s0.take k)
   have:(s0.take k).length≤1000:=by simp;omega
   rw [hout];omega
  repeat' (first | refine sq ?_ | refine stp ?_ | refine blk_o (by decide) ?_ | (apply cb;(focus (simp (disch:=(first | omega | (simp;omega))) only [go_sem,w64,bs_size];try exact rfl));refine cok ?_) | (refine rgT ?_;intro K hK) | (refine dA ?_;intro K hK) | (with_reducible refine hK _ ?_;clear hK K) | (refine stq ?_;simp (disch:=(first | omega | (simp;omega))) only [go_sem,w64,bs_size]) | refine as1 ?_ | fail)
  refine awp_if (p:=(k:Int)<s0.length) (by simp (disch:=(first | omega | (simp;omega))) only [go_sem,w64,bs_size]) ?_ ?_ <;> intro hc
  ·have hk2:k<s0.length:=by omega
   obtain ⟨c,hcc⟩:∃ c,c=s0[k]:=⟨_,rfl⟩
   have hx:(bs s0).extract k (k+1)=bs [c]:=by
    rw [bs_ext,List.take_succ_eq_append_getElem hk2,List.drop_append_of_le_length (by simp;omega),List.drop_of_length_le (by simp;omega),hcc]
    rfl
   have w1:IntKind.i64.wrap ((k:Int)+1)=((k+1:Nat):Int):=by rw [w64 (by omega)];omega
   repeat' (first | refine sq ?_ | refine stp ?_ | refine blk_o (by decide) ?_ | (apply cb;(focus (simp (disch:=(first | omega | (simp;omega))) only [go_sem,w64];try exact rfl));refine cok ?_) | (refine rgT ?_;intro K hK) | (refine dA ?_;intro K hK) | (with_reducible refine hK _ ?_;clear hK K) | (refine stq ?_;simp (disch:=(first | omega | (simp;omega))) only [go_sem,w64]) | refine as1 ?_ | fail)
   refine awp_loopw (fun m s=>∃ (j:Nat) (o2:List Int),m=5 - j∧j≤5∧o2=out ++ letF c j∧s=mkS [(0,.d (.str (bs s0))),(3,.buf 6 3 1 (o2.map .int)),(4,.d (.int (k:Nat))),(5,.d (.int (j:Nat)))] []) ?_ ?_
   ·refine ⟨_,_,?_,0,out,rfl,by omega,by simp [letF],rfl⟩
    exact sleA
   ·rintro m s ⟨j,o2,rfl,hj,ho2,rfl⟩
    have hol2:o2.length≤5010:=by
     have:=letF_len c j
     rw [ho2,List.length_append];omega
    repeat' (first | refine sq ?_ | refine stp ?_ | refine blk_o (by decide) ?_ | (apply cb;(focus (simp (disch:=(first | omega | (simp;omega))) only [go_sem,w64];try exact rfl));refine cok ?_) | (refine rgT ?_;intro K hK) | (refine dA ?_;intro K hK) | (with_reducible refine hK _ ?_;clear hK K) | (refine stq ?_;simp (disch:=(first | omega | (simp;omega))) only [go_sem,w64]) | refine as1 ?_ | fail)
    refine awp_if (p:=(j:Int)<5) (by simp (disch:=(first | omega | (simp;omega))) only [go_sem,w64]) ?_ ?_ <;> intro hc2
    ·repeat' (first | refine sq ?_ | refine stp ?_ | refine blk_o (by decide) ?_ | (apply cb;(focus (simp (disch:=(first | omega | (simp;omega))) only [go_sem,w64];try exact rfl));refine cok ?_) | (refine rgT ?_;intro K hK) | (refine dA ?_;intro K hK) | (with_reducible refine hK _ ?_;clear hK K) | (refine stq ?_;simp (disch:=(first | omega | (simp;omega))) only [go_sem,w64]) | refine as1 ?_ | fail)
     (first | refine callA (varNameA (j:Nat)) ?_ | refine callD (varNameA (j:Nat)) ?_ | refine callE (varNameA (j:Nat)) ?_ | refine callF (varNameA (j:Nat)) ?_ ?_)
     cases hcv:(vn (j:Int) == [c]) with
     | true =>
      repeat' (first | refine sq ?_ | refine stp ?_ | refine blk_o (by decide) ?_ | (apply cb;(focus (simp (disch:=(first | omega | (simp;omega))) only [go_sem,w64,w1,hx,bs_size,strEq_bs,hcv];try exact rfl));refine cok ?_) | (refine rgT ?_;intro K hK) | (refine dA ?_;intro K hK) | (with_reducible refine hK _ ?_;clear hK K) | (refine stq ?_;simp (disch:=(first | omega | (simp;omega))) only [go_sem,w64,w1,hx,bs_size,strEq_bs,hcv]) | refine as1 ?_ | fail)
      refine ⟨5 - (j+1),_,by omega,?_,j+1,o2 ++ [(j:Int)],rfl,by omega,?_,rfl⟩
      ·rw [List.map_append]
       exact sleA
      ·rw [ho2,letF_snoc,if_pos hcv,List.append_assoc]
     | false =>
      repeat' (first | refine sq ?_ | refine stp ?_ | refine blk_o (by decide) ?_ | (apply cb;(focus (simp (disch:=(first | omega | (simp;omega))) only [go_sem,w64,w1,hx,bs_size,strEq_bs,hcv];try exact rfl));refine cok ?_) | (refine rgT ?_;intro K hK) | (refine dA ?_;intro K hK) | (with_reducible refine hK _ ?_;clear hK K) | (refine stq ?_;simp (disch:=(first | omega | (simp;omega))) only [go_sem,w64,w1,hx,bs_size,strEq_bs,hcv]) | refine as1 ?_ | fail)
      refine ⟨5 - (j+1),_,by omega,?_,j+1,o2,rfl,by omega,?_,rfl⟩
      ·exact sleA
      ·rw [ho2,letF_snoc,if_neg (by rw [hcv];exact fun h=>(by cases h)),List.append_nil]
    ·obtain rfl:j=5:=by omega
     repeat' (first | refine sq ?_ | refine stp ?_ | refine blk_o (by decide) ?_ | (apply cb;(focus (simp (disch:=(first | omega | (simp;omega))) only [go_sem,w64,w1];try exact rfl));refine cok ?_) | (refine rgT ?_;intro K hK) | (refine dA ?_;intro K hK) | (with_reducible refine hK _ ?_;clear hK K) | (refine stq ?_;simp (disch:=(first | omega | (simp;omega))) only [go_sem,w64,w1]) | refine as1 ?_ | fail)
     refine ⟨s0.length - (k+1),_,by omega,?_,k+1,o2,rfl,by omega,?_,rfl⟩
     ·exact sleA
     ·rw [ho2,hout,List.take_succ_eq_append_getElem hk2,← hcc]
      simp [listF]
  ·obtain rfl:k=s0.length:=by omega
   rw [List.take_length] at hout
   repeat' (first | refine sq ?_ | refine stp ?_ | refine blk_o (by decide) ?_ | (apply cb;(focus (simp (disch:=(first | omega | (simp;omega))) only [go_sem,w64];try exact rfl));refine cok ?_) | (refine rgT ?_;intro K hK) | (refine dA ?_;intro K hK) | (with_reducible refine hK _ ?_;clear hK K) | (refine stq ?_;simp (disch:=(first | omega | (simp;omega))) only [go_sem,w64]) | refine as1 ?_ | fail)
   refine end0 6 (.inr rfl) (by simp (disch:=(first | omega | (simp;omega))) only [go_sem,w64];rfl) (r:=.buf 0 3 1 ((listF s0).map .int)) (by rw [← hout];simp (disch:=(first | omega | (simp;omega))) only [go_sem,w64];exact .refl _) ⟨rfl,rfl⟩
end Go.Proofs.YtkohkoiegmcghaaDoor
namespace Go.Proofs.YtkohkoiegmcghaaDoor
set_option linter.unusedSimpArgs false
set_option linter.unusedVariables false
attribute [local go_sem ↓] reduceIte
attribute [local go_sem] Nat.reduceEqDiff Nat.reduceLT Nat.reduceAdd Nat.reduceLeDiff Nat.reduceMul Nat.reduceBEq Nat.reduceSub reduceCtorEq Int.reduceLE Int.reduceNeg Int.reduceLT
open Go.RowKit
def strD (p:List UInt8):DV:=.str (bs p)
theorem drop_step {s:List UInt8} {i:Nat} (h:i<s.length):s.drop i=s[i] :: s.drop (i+1):=List.drop_eq_getElem_cons h
theorem cur_step {s:List UInt8} {i fr:Nat} (h:i<s.length) (hf:fr≤i):(s.take (i+1)).drop fr=(s.take i).drop fr ++ [s[i]]:=by
 rw [List.take_succ_eq_append_getElem h,List.drop_append_of_le_length (by simp;omega)]
theorem cutGo_len (c:UInt8):∀ (l cur:List UInt8),(cutGo c cur l).length≤l.length+1
 | [],cur=>by simp [cutGo]
 | x :: l,cur=>by
  unfold cutGo
  split
  ·have:=cutGo_len c l [];simp;omega
  ·have:=cutGo_len c l (cur ++ [x]);simp;omega
theorem cutGo_pos (c:UInt8):∀ (l cur:List UInt8),0<(cutGo c cur l).length
 | [],cur=>by simp [cutGo]
 | x :: l,cur=>by
  unfold cutGo
  split
  ·simp
  ·exact cutGo_pos c l (cur ++ [x])
theorem cutGo_sz (c:UInt8):∀ (l cur:List UInt8) (n:Nat),cur.length+l.length≤n→∀ p∈cutGo c cur l,p.length≤n
 | [],cur,n,h,p,hp=>by simp only [cutGo,List.mem_singleton] at hp;subst hp;simp at h;exact h
 | x :: l,cur,n,h,p,hp=>by
  unfold cutGo at hp
  simp only [List.length_cons] at h
  split at hp
  ·rcases List.mem_cons.1 hp with rfl | hp
   ·omega
   ·exact cutGo_sz c l [] n (by simp;omega) p hp
  ·exact cutGo_sz c l (cur ++ [x]) n (by simp;omega) p hp
theorem l5CutA (s0:List UInt8) (c:UInt8) (hl:s0.length≤1000):AFn 79 [.d (.str (bs s0)),.d (.byte (c.toNat:Nat))] [] (fun r os=>r=.buf 0 9 1 ((cutF s0 c).map strD)∧os=[]):=by
 refine afn_of (rv:=[.tmp 4]) tyT_ok Tryd.func79 rfl (by decide +kernel) Tryd.ntmps79 rfl (by simp) ?_
 repeat' (first | refine sq ?_ | refine stp ?_ | refine blk_o (by decide) ?_ | (apply cb;(focus (simp (disch:=(first | omega | (simp;omega))) only [go_sem,w64];try exact rfl));refine cok ?_) | (refine rgT ?_;intro K hK) | (refine dA ?_;intro K hK) | (with_reducible refine hK _ ?_;clear hK K) | (refine stq ?_;simp (disch:=(first | omega | (simp;omega))) only [go_sem,w64]) | refine as1 ?_ | fail)
 refine awp_loopw (fun m s=>∃ (i fr:Nat) (out:List (List UInt8)),m=s0.length - i∧i≤s0.length∧fr≤i∧out.length≤i∧cutF s0 c=out ++ cutGo c ((s0.take i).drop fr) (s0.drop i)∧s=mkS [(0,.d (.str (bs s0))),(1,.d (.byte (c.toNat:Nat))),(5,.buf 8 9 1 (out.map strD)),(6,.d (.int (fr:Nat))),(7,.d (.int (i:Nat)))] []) ?_ ?_
 ·refine ⟨_,_,?_,0,0,[],rfl,Nat.zero_le _,Nat.le_refl _,by simp,by simp [cutF],rfl⟩
  exact sleA
 ·rintro m s ⟨i,fr,out,rfl,hi,hfr,hol,hcut,rfl⟩
  have hx:(bs s0).extract fr i=bs ((s0.take i).drop fr):=bs_ext s0 fr i
  repeat' (first | refine sq ?_ | refine stp ?_ | refine blk_o (by decide) ?_ | (apply cb;(focus (simp (disch:=(first | omega | (simp;omega))) only [go_sem,w64,bs_size];try exact rfl));refine cok ?_) | (refine rgT ?_;intro K hK) | (refine dA ?_;intro K hK) | (with_reducible refine hK _ ?_;clear hK K) | (refine stq ?_;simp (disch:=(first | omega | (simp;omega))) only [go_sem,w64,bs_size]) | refine as1 ?_ | fail)
  refine awp_if (p:=(i:Int)<s0.length) (by simp (disch:=(first | omega | (simp;omega))) only [go_sem,w64,bs_size]) ?_ ?_ <;> intro hc
  ·have hi2:i<s0.length:=by omega
   have hb:bAt (bs s0) i=((s0[i].toNat:Nat):Int):=by rw [bs_at];simp [List.getD,hi2]
   have w1:IntKind.i64.wrap ((i:Int)+1)=((i+1:Nat):Int):=by rw [w64 (by omega)];omega
   rw [drop_step hi2] at hcut
   by_cases he:s0[i]=c
   ·have he2:((s0[i].toNat:Nat):Int)=((c.toNat:Nat):Int)↔True:=iff_of_true (by rw [he]) trivial
    repeat' (first | refine sq ?_ | refine stp ?_ | refine blk_o (by decide) ?_ | (apply cb;(focus (simp (disch:=(first | omega | (simp;omega))) only [go_sem,w64,bs_size,hb,he2,hx,w1];try exact rfl));refine cok ?_) | (refine rgT ?_;intro K hK) | (refine dA ?_;intro K hK) | (with_reducible refine hK _ ?_;clear hK K) | (refine stq ?_;simp (disch:=(first | omega | (simp;omega))) only [go_sem,w64,bs_size,hb,he2,hx,w1]) | refine as1 ?_ | fail)
    refine ⟨s0.length - (i+1),_,by omega,?_,i+1,i+1,out ++ [(s0.take i).drop fr],rfl,by omega,Nat.le_refl _,by simp;omega,?_,rfl⟩
    ·rw [List.map_append]
     (refine sle_mk ?_ ?_ <;> simp (disch:=(first | omega | (simp;omega))) only [go_sem,w64,strD] <;> exact leafs)
    ·rw [hcut,cutGo,if_pos he,List.append_assoc,List.drop_of_length_le (i:=i+1) (l:=s0.take (i+1)) (by simp;omega)]
     rfl
   ·have he2:((s0[i].toNat:Nat):Int)=((c.toNat:Nat):Int)↔False:=iff_of_false (fun e=>he (UInt8.toNat_inj.1 (by omega))) id
    repeat' (first | refine sq ?_ | refine stp ?_ | refine blk_o (by decide) ?_ | (apply cb;(focus (simp (disch:=(first | omega | (simp;omega))) only [go_sem,w64,bs_size,hb,he2,hx,w1];try exact rfl));refine cok ?_) | (refine rgT ?_;intro K hK) | (refine dA ?_;intro K hK) | (with_reducible refine hK _ ?_;clear hK K) | (refine stq ?_;simp (disch:=(first | omega | (simp;omega))) only [go_sem,w64,bs_size,hb,he2,hx,w1]) | refine as1 ?_ | fail)
    refine ⟨s0.length - (i+1),_,by omega,?_,i+1,fr,out,rfl,by omega,by omega,by omega,?_,rfl⟩
    ·exact sleA
    ·rw [hcut,cutGo,if_neg he,cur_step hi2 hfr]
  ·obtain rfl:i=s0.length:=by omega
   rw [List.drop_length] at hcut
   repeat' (first | refine sq ?_ | refine stp ?_ | refine blk_o (by decide) ?_ | (apply cb;(focus (simp (disch:=(first | omega | (simp;omega))) only [go_sem,w64,bs_size,hx];try exact rfl));refine cok ?_) | (refine rgT ?_;intro K hK) | (refine dA ?_;intro K hK) | (with_reducible refine hK _ ?_;clear hK K) | (refine stq ?_;simp (disch:=(first | omega | (simp;omega))) only [go_sem,w64,bs_size,hx]) | refine as1 ?_ | fail)
   refine end0 8 (.inr rfl) (by simp (disch:=(first | omega | (simp;omega))) only [go_sem,w64];rfl) (r:=.buf 0 9 1 ((cutF s0 c).map strD)) (by rw [hcut];simp (disch:=(first | omega | (simp;omega))) only [go_sem,w64,cutGo,List.map_append,strD];exact .refl _) ⟨rfl,rfl⟩
end Go.Proofs.YtkohkoiegmcghaaDoor
namespace Go.Proofs.YtkohkoiegmcghaaDoor
set_option linter.unusedSimpArgs false
set_option linter.unusedVariables false
attribute [local go_sem ↓] reduceIte
attribute [local go_sem] Nat.reduceEqDiff Nat.reduceLT Nat.reduceAdd Nat.reduceLeDiff Nat.reduceMul Nat.reduceBEq Nat.reduceSub reduceCtorEq Int.reduceLE Int.reduceNeg Int.reduceLT
open Go.RowKit
def atomW (x:AtomD):List UInt8:=x.nm.data.toList ++ varsF x.vs
def joinF:List AtomD→List UInt8
 | []=>[]
 | x :: l=>atomW x ++ (l.map fun y=>[44] ++ atomW y).flatten
noncomputable def fmtF (nv:Int) (xs:List AtomD) (us:List Int):List UInt8:=if qOK nv xs us=true then varsF us ++ ([61] ++ joinF xs) else []
theorem varsF_len (l:List Int):(varsF l).length≤l.length+2:=by
 have:=vns_len l
 simp only [varsF,List.length_append,List.length_cons,List.length_nil]
 omega
theorem joinF_snoc (l:List AtomD) (x:AtomD):joinF (l ++ [x])=joinF l ++ ((if l=[] then [] else [44]) ++ atomW x):=by
 cases l with
 | nil=>simp [joinF]
 | cons y l=>simp [joinF]
theorem getDA3 {l:List AtomD} {i:Nat} {x:DV} (h:i<l.length):(l.map atomDV).getD i x=atomDV (ax l i):=by
 simp [List.getD,ax,h]
theorem ax_mem {l:List AtomD} {i:Nat} (h:i<l.length):ax l i=l[i]:=by simp [ax,List.getD,h]
set_option maxHeartbeats 1000000 in
theorem formatA (nv:Int) (xs:List AtomD) (us:List Int) (hn:NmOK xs):AFn 82 [.d (queryD nv xs us)] [] (fun r os=>r=.d (.str (bs (fmtF nv xs us)))∧os=[]):=by
 refine afn_of (rv:=[.tmp 2]) tyT_ok Tryd.func82 rfl (by decide +kernel) Tryd.ntmps82 rfl (by simp) ?_
 repeat' (first | refine sq ?_ | refine stp ?_ | refine blk_o (by decide) ?_ | (apply cb;(focus (simp (disch:=(first | omega | (simp;omega))) only [go_sem,w64,intsD];try exact rfl));refine cok ?_) | (refine rgT ?_;intro K hK) | (refine dA ?_;intro K hK) | (with_reducible refine hK _ ?_;clear hK K) | (refine stq ?_;simp (disch:=(first | omega | (simp;omega))) only [go_sem,w64,intsD]) | refine as1 ?_ | fail)
 (first | refine callA (specValidQA nv xs us hn) ?_ | refine callD (specValidQA nv xs us hn) ?_ | refine callE (specValidQA nv xs us hn) ?_ | refine callF (specValidQA nv xs us hn) ?_ ?_)
 cases hq:qOK nv xs us with
 | false =>
  repeat' (first | refine sq ?_ | refine stp ?_ | refine blk_o (by decide) ?_ | (apply cb;(focus (simp (disch:=(first | omega | (simp;omega))) only [go_sem,w64,intsD];try exact rfl));refine cok ?_) | (refine rgT ?_;intro K hK) | (refine dA ?_;intro K hK) | (with_reducible refine hK _ ?_;clear hK K) | (refine stq ?_;simp (disch:=(first | omega | (simp;omega))) only [go_sem,w64,intsD]) | refine as1 ?_ | fail)
  rw [show bs (fmtF nv xs us)=ByteArray.mk #[] from by unfold fmtF;rw [if_neg (by rw [hq];exact fun h=>(by cases h))];rfl]
  (refine endA (r:=.d (.str (ByteArray.mk #[]))) ?_)
  exact ⟨rfl,rfl⟩
 | true =>
  obtain ⟨⟨⟨v1,v2⟩,n1,n2⟩,hset,hat,_⟩:=qOK_out hq
  have hus:us.length≤5:=by
   refine Decidable.byContradiction fun h=>?_
   have:=qOK_long (nv:=nv) (xs:=xs) (us:=us) (by omega) (by omega)
   rw [hq] at this;cases this
  have c61:ByteArray.mk #[61]=bs [61]:=rfl
  have c44:ByteArray.mk #[44]=bs [44]:=rfl
  have hvl:=varsF_len us
  repeat' (first | refine sq ?_ | refine stp ?_ | refine blk_o (by decide) ?_ | (apply cb;(focus (simp (disch:=(first | omega | (simp;omega))) only [go_sem,w64,intsD];try exact rfl));refine cok ?_) | (refine rgT ?_;intro K hK) | (refine dA ?_;intro K hK) | (with_reducible refine hK _ ?_;clear hK K) | (refine stq ?_;simp (disch:=(first | omega | (simp;omega))) only [go_sem,w64,intsD]) | refine as1 ?_ | fail)
  (first | refine callA (l7VarsA us (by omega)) ?_ | refine callD (l7VarsA us (by omega)) ?_ | refine callE (l7VarsA us (by omega)) ?_ | refine callF (l7VarsA us (by omega)) ?_ ?_)
  repeat' (first | refine sq ?_ | refine stp ?_ | refine blk_o (by decide) ?_ | (apply cb;(focus (simp (disch:=(first | omega | (simp;omega))) only [go_sem,w64,c61,bs_app,bs_size];try exact rfl));refine cok ?_) | (refine rgT ?_;intro K hK) | (refine dA ?_;intro K hK) | (with_reducible refine hK _ ?_;clear hK K) | (refine stq ?_;simp (disch:=(first | omega | (simp;omega))) only [go_sem,w64,c61,bs_app,bs_size]) | refine as1 ?_ | fail)
  refine awp_loopw (fun m s=>∃ (k:Nat) (t:List UInt8),m=xs.length - k∧k≤xs.length∧t.length≤20+20*k∧t=varsF us ++ ([61] ++ joinF (xs.take k))∧s=mkS [(1,.ptr 1 0),(3,.d (.str (bs t))),(4,.d (.int (k:Nat)))] [(1,[.d (.int nv),.d (.sl 2 (xs.map atomDV)),.d (intsD us)])]) ?_ ?_
  ·refine ⟨_,_,?_,0,varsF us ++ [61],rfl,Nat.zero_le _,by simp;omega,by simp [joinF],rfl⟩
   exact sleA
  ·rintro m s ⟨k,t,rfl,hk,htl,ht,rfl⟩
   repeat' (first | refine sq ?_ | refine stp ?_ | refine blk_o (by decide) ?_ | (apply cb;(focus (simp (disch:=(first | omega | (simp;omega))) only [go_sem,w64,intsD];try exact rfl));refine cok ?_) | (refine rgT ?_;intro K hK) | (refine dA ?_;intro K hK) | (with_reducible refine hK _ ?_;clear hK K) | (refine stq ?_;simp (disch:=(first | omega | (simp;omega))) only [go_sem,w64,intsD]) | refine as1 ?_ | fail)
   refine awp_if (p:=(k:Int)<xs.length) (by simp (disch:=(first | omega | (simp;omega))) only [go_sem,w64]) ?_ ?_ <;> intro hc
   ·have hk2:k<xs.length:=by omega
    have g0:(xs.map atomDV).getD k (.bool false)=atomDV (ax xs k):=getDA3 hk2
    obtain ⟨hnm,⟨_,hv5⟩,_⟩:=hat k hk2
    have hns:(ax xs k).nm.size≤4:=by
     unfold nameOK at hnm;simp only [decide_eq_true_eq] at hnm;exact hnm.1.2
    obtain ⟨nb,hnb,hnl,hnd⟩:∃ nb,(ax xs k).nm=bs nb∧nb.length≤4∧nb=(ax xs k).nm.data.toList:=⟨_,bs_of _,by rw [Array.length_toList];exact hns,rfl⟩
    have hvk:=varsF_len (ax xs k).vs
    have w1:IntKind.i64.wrap ((k:Int)+1)=((k+1:Nat):Int):=by rw [w64 (by omega)];omega
    have hstep:∀ sep:List UInt8,sep=(if k=0 then [] else [44])→t ++ sep ++ nb ++ varsF (ax xs k).vs=varsF us ++ ([61] ++ joinF (xs.take (k+1))):=fun sep hs=>by
     rw [List.take_succ_eq_append_getElem hk2,joinF_snoc,ht,← ax_mem hk2]
     have e:(xs.take k=[])↔k=0:=by
      rw [List.take_eq_nil_iff]
      constructor
      ·rintro (h | h)
       ·exact h
       ·subst h;simp at hk2
      ·exact .inl
     simp only [e,hs,atomW,hnd,List.append_assoc]
    by_cases h0:k=0
    ·have h0t:(0:Int)<(k:Nat)↔False:=iff_of_false (by omega) id
     repeat' (first | refine sq ?_ | refine stp ?_ | refine blk_o (by decide) ?_ | (apply cb;(focus (simp (disch:=(first | omega | (simp;omega))) only [go_sem,w64,intsD,g0,h0t,hnb,bs_app,bs_size];try exact rfl));refine cok ?_) | (refine rgT ?_;intro K hK) | (refine dA ?_;intro K hK) | (with_reducible refine hK _ ?_;clear hK K) | (refine stq ?_;simp (disch:=(first | omega | (simp;omega))) only [go_sem,w64,intsD,g0,h0t,hnb,bs_app,bs_size]) | refine as1 ?_ | fail)
     (first | refine callA (l7VarsA (ax xs k).vs (by omega)) ?_ | refine callD (l7VarsA (ax xs k).vs (by omega)) ?_ | refine callE (l7VarsA (ax xs k).vs (by omega)) ?_ | refine callF (l7VarsA (ax xs k).vs (by omega)) ?_ ?_)
     repeat' (first | refine sq ?_ | refine stp ?_ | refine blk_o (by decide) ?_ | (apply cb;(focus (simp (disch:=(first | omega | (simp;omega))) only [go_sem,w64,intsD,g0,hnb,bs_app,bs_size,w1];try exact rfl));refine cok ?_) | (refine rgT ?_;intro K hK) | (refine dA ?_;intro K hK) | (with_reducible refine hK _ ?_;clear hK K) | (refine stq ?_;simp (disch:=(first | omega | (simp;omega))) only [go_sem,w64,intsD,g0,hnb,bs_app,bs_size,w1]) | refine as1 ?_ | fail)
     refine ⟨xs.length - (k+1),_,by omega,?_,k+1,t ++ [] ++ nb ++ varsF (ax xs k).vs,rfl,by omega,by simp only [List.length_append,List.length_nil];omega,hstep [] (by rw [if_pos h0]),rfl⟩
     rw [List.append_nil]
     exact sleA
    ·have h0t:(0:Int)<(k:Nat)↔True:=iff_of_true (by omega) trivial
     repeat' (first | refine sq ?_ | refine stp ?_ | refine blk_o (by decide) ?_ | (apply cb;(focus (simp (disch:=(first | omega | (simp;omega))) only [go_sem,w64,intsD,c44,g0,h0t,hnb,bs_app,bs_size];try exact rfl));refine cok ?_) | (refine rgT ?_;intro K hK) | (refine dA ?_;intro K hK) | (with_reducible refine hK _ ?_;clear hK K) | (refine stq ?_;simp (disch:=(first | omega | (simp;omega))) only [go_sem,w64,intsD,c44,g0,h0t,hnb,bs_app,bs_size]) | refine as1 ?_ | fail)
     (first | refine callA (l7VarsA (ax xs k).vs (by omega)) ?_ | refine callD (l7VarsA (ax xs k).vs (by omega)) ?_ | refine callE (l7VarsA (ax xs k).vs (by omega)) ?_ | refine callF (l7VarsA (ax xs k).vs (by omega)) ?_ ?_)
     repeat' (first | refine sq ?_ | refine stp ?_ | refine blk_o (by decide) ?_ | (apply cb;(focus (simp (disch:=(first | omega | (simp;omega))) only [go_sem,w64,intsD,g0,hnb,bs_app,bs_size,w1];try exact rfl));refine cok ?_) | (refine rgT ?_;intro K hK) | (refine dA ?_;intro K hK) | (with_reducible refine hK _ ?_;clear hK K) | (refine stq ?_;simp (disch:=(first | omega | (simp;omega))) only [go_sem,w64,intsD,g0,hnb,bs_app,bs_size,w1]) | refine as1 ?_ | fail)
     refine ⟨xs.length - (k+1),_,by omega,?_,k+1,t ++ [44] ++ nb ++ varsF (ax xs k).vs,rfl,by omega,by simp only [List.length_append,List.length_singleton];omega,hstep [44] (by rw [if_neg h0]),rfl⟩
     exact sleA
   ·obtain rfl:k=xs.length:=by omega
    rw [List.take_length] at ht
    repeat' (first | refine sq ?_ | refine stp ?_ | refine blk_o (by decide) ?_ | (apply cb;(focus (simp (disch:=(first | omega | (simp;omega))) only [go_sem,w64];try exact rfl));refine cok ?_) | (refine rgT ?_;intro K hK) | (refine dA ?_;intro K hK) | (with_reducible refine hK _ ?_;clear hK K) | (refine stq ?_;simp (disch:=(first | omega | (simp;omega))) only [go_sem,w64]) | refine as1 ?_ | fail)
    (refine endA (r:=.d (.str (bs t))) ?_)
    exact ⟨by rw [ht];unfold fmtF;rw [if_pos hq],rfl⟩
end Go.Proofs.YtkohkoiegmcghaaDoor
namespace Go.Proofs.YtkohkoiegmcghaaDoor
set_option linter.unusedSimpArgs false
set_option linter.unusedVariables false
attribute [local go_sem ↓] reduceIte
attribute [local go_sem] Nat.reduceEqDiff Nat.reduceLT Nat.reduceAdd Nat.reduceLeDiff Nat.reduceMul Nat.reduceBEq Nat.reduceSub reduceCtorEq Int.reduceLE Int.reduceNeg Int.reduceLT
open Go.RowKit
def upC (nv:Nat) (c:UInt8) (j:Nat):Nat:=(List.range' nv j).foldl (fun a v=>if (vn ((v:Nat):Int) == [c])=true then v+1 else a) nv
def nvP (nv:Nat) (p:List UInt8):Nat:=p.foldl (fun a c=>upC a c (5 - a)) nv
def pieceA (p:List UInt8):AtomD:=⟨bs ((cutF p 40).getD 0 []),listF p⟩
def nvL (l:List (List UInt8)):Nat:=l.foldl nvP 0
theorem upC_succ (nv:Nat) (c:UInt8) (j:Nat):upC nv c (j+1)=if (vn ((nv+j:Nat):Int) == [c])=true then nv+j+1 else upC nv c j:=by
 unfold upC
 rw [List.range'_concat,List.foldl_append]
 simp
theorem upC_le (nv:Nat) (c:UInt8):∀ j,nv≤upC nv c j∧upC nv c j≤nv+j
 | 0=>by simp [upC]
 | j+1=>by
  have:=upC_le nv c j
  rw [upC_succ]
  split <;> omega
theorem nvP_le:∀ (p:List UInt8) (nv:Nat),nv≤5→nv≤nvP nv p∧nvP nv p≤5
 | [],nv,h=>⟨Nat.le_refl _,h⟩
 | c :: p,nv,h=>by
  have h1:=upC_le nv c (5 - nv)
  have h2:=nvP_le p (upC nv c (5 - nv)) (by omega)
  unfold nvP at h2 ⊢
  simp only [List.foldl_cons]
  omega
theorem nvL_le (l:List (List UInt8)):nvL l≤5:=by
 have:∀ (l:List (List UInt8)) (nv:Nat),nv≤5→l.foldl nvP nv≤5:=fun l=>by
  induction l with
  | nil=>exact fun nv h=>h
  | cons p l ih=>exact fun nv h=>ih _ (nvP_le p nv h).2
 exact this l 0 (by omega)
theorem nvP_snoc (nv:Nat) (p:List UInt8) (c:UInt8):nvP nv (p ++ [c])=upC (nvP nv p) c (5 - nvP nv p):=by simp [nvP]
theorem end02 {ty:TypeId→Option TyI} {N:Nat} {s:AS} {rv:List ResultVar} {R:AV→List (List AV)→Prop} {e:Exit} (g g1:Nat) {xs:List AV} {r:AV} (hgg:g ≠ g1) (he:e=.normal∨e=.ret) (hx:finA ty N s rv=some xs) (h:ALe (outA2 [] g g1 (retA xs)) r) (hR:R r []):EndA2 ty N 0 rv R e s :=
 ⟨he,[],g,g1,xs,[],hgg,hx,by simp [lentN],by simp,by simp [lentN,obsOut2],r,by simpa [lentN] using h,hR⟩
theorem getDSt {l:List (List UInt8)} {i:Nat} {x:DV} (h:i<l.length):(l.map strD).getD i x=.str (bs l[i]):=by simp [List.getD,h,strD]
theorem piece_nm {p:List UInt8} (hp:p.length≤1000):NmOK [pieceA p]:=by
 intro x hx
 simp only [List.mem_singleton] at hx
 subst hx
 simp only [pieceA,bs_size]
 have h0:=cutGo_pos 40 p []
 have:=cutGo_sz 40 p [] 1000 (by simpa using hp) ((cutF p 40).getD 0 []) (by
  show (cutF p 40).getD 0 []∈cutF p 40
  rw [List.getD_eq_getElem?_getD,List.getElem?_eq_getElem (show 0<(cutF p 40).length from h0)];exact List.getElem_mem _)
 omega
set_option maxHeartbeats 4000000 in
theorem parseA (s0 w0 w1:List UInt8) (hl:s0.length≤1000) (hw:cutF s0 61=[w0,w1]) (hf:fmtF (nvL (cutF w1 44):Nat) ((cutF w1 44).map pieceA) (listF w0)=s0) (hne:s0 ≠ []) :
 AFn 68 [.d (.str (bs s0))] [] (fun r os=>r=.tup [.st [.d (.int (nvL (cutF w1 44):Nat)),.buf 0 57 2 (((cutF w1 44).map pieceA).map atomDV),.buf 1 3 1 ((listF w0).map .int)],.d (.bool true)]∧os=[]):=by
 have hsz:∀ p∈cutF s0 61,p.length≤1000:=cutGo_sz 61 s0 [] 1000 (by simpa using hl)
 have hw0:w0.length≤1000:=hsz w0 (by rw [hw];simp)
 have hw1:w1.length≤1000:=hsz w1 (by rw [hw];simp)
 have hsp:∀ p∈cutF w1 44,p.length≤1000:=cutGo_sz 44 w1 [] 1000 (by simpa using hw1)
 have hpl:=cutGo_len 44 w1 []
 have hpp:=cutGo_pos 44 w1 []
 obtain ⟨ps,hps⟩:∃ ps,ps=cutF w1 44:=⟨_,rfl⟩
 have hC1:=l5CutA s0 61 hl
 rw [hw,show (((61:UInt8).toNat:Nat):Int)=61 from rfl] at hC1
 have hC2:=l5CutA w1 44 hw1
 rw [← hps,show (((44:UInt8).toNat:Nat):Int)=44 from rfl] at hC2
 rw [← hps] at hf hsp ⊢
 have hpl2:ps.length≤1001:=by rw [hps];exact Nat.le_trans hpl (by omega)
 have hpp2:0<ps.length:=by rw [hps];exact hpp
 refine afn_of2 (rv:=[.cell 2 27,.tmp 3]) tyS_ok Tryd.func68 rfl (by decide +kernel) Tryd.ntmps68 rfl (by simp) ?_
 repeat' (first | refine sq ?_ | refine stp ?_ | refine blk_o (by decide) ?_ | (apply cb;(focus (simp (disch:=(first | omega | (simp;omega))) only [go_sem,w64];try exact rfl));refine cok ?_) | (refine rgS ?_;intro K hK) | (refine dA ?_;intro K hK) | (with_reducible refine hK _ ?_;clear hK K) | (refine stq ?_;simp (disch:=(first | omega | (simp;omega))) only [go_sem,w64]) | refine as1 ?_ | fail)
 (first | refine callA (hC1) ?_ | refine callD (hC1) ?_ | refine callE (hC1) ?_ | refine callF (hC1) ?_ ?_)
 have e2:((2:Nat):Int)=2:=rfl
 have t0:Int.toNat 0=0:=rfl
 have t1:Int.toNat 1=1:=rfl
 repeat' (first | refine sq ?_ | refine stp ?_ | refine blk_o (by decide) ?_ | (apply cb;(focus (simp (disch:=(first | omega | (simp;omega))) only [go_sem,w64,strD,List.map_cons,List.map_nil,e2,t0,t1];try exact rfl));refine cok ?_) | (refine rgS ?_;intro K hK) | (refine dA ?_;intro K hK) | (with_reducible refine hK _ ?_;clear hK K) | (refine stq ?_;simp (disch:=(first | omega | (simp;omega))) only [go_sem,w64,strD,List.map_cons,List.map_nil,e2,t0,t1]) | refine as1 ?_ | fail)
 (first | refine callA (l7ListA w0 hw0) ?_ | refine callD (l7ListA w0 hw0) ?_ | refine callE (l7ListA w0 hw0) ?_ | refine callF (l7ListA w0 hw0) ?_ ?_)
 repeat' (first | refine sq ?_ | refine stp ?_ | refine blk_o (by decide) ?_ | (apply cb;(focus (simp (disch:=(first | omega | (simp;omega))) only [go_sem,w64,strD,List.map_cons,List.map_nil,e2,t0,t1];try exact rfl));refine cok ?_) | (refine rgS ?_;intro K hK) | (refine dA ?_;intro K hK) | (with_reducible refine hK _ ?_;clear hK K) | (refine stq ?_;simp (disch:=(first | omega | (simp;omega))) only [go_sem,w64,strD,List.map_cons,List.map_nil,e2,t0,t1]) | refine as1 ?_ | fail)
 (first | refine callA (hC2) ?_ | refine callD (hC2) ?_ | refine callE (hC2) ?_ | refine callF (hC2) ?_ ?_)
 repeat' (first | refine sq ?_ | refine stp ?_ | refine blk_o (by decide) ?_ | (apply cb;(focus (simp (disch:=(first | omega | (simp;omega))) only [go_sem,w64];try exact rfl));refine cok ?_) | (refine rgS ?_;intro K hK) | (refine dA ?_;intro K hK) | (with_reducible refine hK _ ?_;clear hK K) | (refine stq ?_;simp (disch:=(first | omega | (simp;omega))) only [go_sem,w64]) | refine as1 ?_ | fail)
 generalize hout:listF w0=out at *
 refine awp_nilbufO 5 1 49 57 2 (l:=[.d (.int 0),.nil,.buf 20 3 1 (out.map .int)]) (by simp (disch:=(first | omega | (simp;omega))) only [go_sem,w64]) rfl ?_
 refine awp_loopw (fun m s=>∃ (k:Nat) (ats:List AtomD),m=ps.length - k∧k≤ps.length∧ats=(ps.take k).map pieceA∧s=mkS [(0,.d (.str (bs s0))),(2,.ptr 2 0),(5,.ptr 5 0),(6,.buf 25 9 1 (ps.map strD)),(7,.d (.int (k:Nat)))] [(2,[.d (.int 0),.nil,.nil]),(5,[.d (.int (nvL (ps.take k):Nat)),.buf 49 57 2 (ats.map atomDV),.buf 20 3 1 (out.map .int)])]) ?_ ?_
 ·refine ⟨_,_,?_,0,[],rfl,Nat.zero_le _,rfl,rfl⟩
  exact sleA
 ·rintro m s ⟨k,ats,rfl,hk,has,rfl⟩
  repeat' (first | refine sq ?_ | refine stp ?_ | refine blk_o (by decide) ?_ | (apply cb;(focus (simp (disch:=(first | omega | (simp;omega))) only [go_sem,w64];try exact rfl));refine cok ?_) | (refine rgT ?_;intro K hK) | (refine dA ?_;intro K hK) | (with_reducible refine hK _ ?_;clear hK K) | (refine stq ?_;simp (disch:=(first | omega | (simp;omega))) only [go_sem,w64]) | refine as1 ?_ | fail)
  refine awp_if (p:=(k:Int)<ps.length) (by simp (disch:=(first | omega | (simp;omega))) only [go_sem,w64]) ?_ ?_ <;> intro hc
  ·have hk2:k<ps.length:=by omega
   obtain ⟨p,hp⟩:∃ p,p=ps[k]:=⟨_,rfl⟩
   have hpm:p∈ps:=by rw [hp];exact List.getElem_mem _
   have hp1:=hsp p hpm
   have g0:(ps.map strD).getD k (.bool false)=.str (bs p):=by rw [getDSt hk2,hp]
   have hC3:=l5CutA p 40 hp1
   rw [show (((40:UInt8).toNat:Nat):Int)=40 from rfl] at hC3
   have hc0:0<(cutF p 40).length:=cutGo_pos 40 p []
   have g1:((cutF p 40).map strD).getD 0 (.bool false)=.str (bs ((cutF p 40).getD 0 [])):=by
    rw [getDSt hc0,List.getD_eq_getElem?_getD,List.getElem?_eq_getElem hc0];rfl
   have hal:ats.length≤1001:=by rw [has];simp;omega
   repeat' (first | refine sq ?_ | refine stp ?_ | refine blk_o (by decide) ?_ | (apply cb;(focus (simp (disch:=(first | omega | (simp;omega))) only [go_sem,w64,g0];try exact rfl));refine cok ?_) | (refine rgT ?_;intro K hK) | (refine dA ?_;intro K hK) | (with_reducible refine hK _ ?_;clear hK K) | (refine stq ?_;simp (disch:=(first | omega | (simp;omega))) only [go_sem,w64,g0]) | refine as1 ?_ | fail)
   (first | refine callA (hC3) ?_ | refine callD (hC3) ?_ | refine callE (hC3) ?_ | refine callF (hC3) ?_ ?_)
   repeat' (first | refine sq ?_ | refine stp ?_ | refine blk_o (by decide) ?_ | (apply cb;(focus (simp (disch:=(first | omega | (simp;omega))) only [go_sem,w64,g0,g1,t0];try exact rfl));refine cok ?_) | (refine rgT ?_;intro K hK) | (refine dA ?_;intro K hK) | (with_reducible refine hK _ ?_;clear hK K) | (refine stq ?_;simp (disch:=(first | omega | (simp;omega))) only [go_sem,w64,g0,g1,t0]) | refine as1 ?_ | fail)
   (first | refine callA (l7ListA p hp1) ?_ | refine callD (l7ListA p hp1) ?_ | refine callE (l7ListA p hp1) ?_ | refine callF (l7ListA p hp1) ?_ ?_)
   repeat' (first | refine sq ?_ | refine stp ?_ | refine blk_o (by decide) ?_ | (apply cb;(focus (simp (disch:=(first | omega | (simp;omega))) only [go_sem,w64,g0,g1,t0];try exact rfl));refine cok ?_) | (refine rgT ?_;intro K hK) | (refine dA ?_;intro K hK) | (with_reducible refine hK _ ?_;clear hK K) | (refine stq ?_;simp (disch:=(first | omega | (simp;omega))) only [go_sem,w64,g0,g1,t0]) | refine as1 ?_ | fail)
   have hnk:nvL ((ps.take k))≤5:=nvL_le _
   obtain ⟨A2,hA2⟩:∃ A2,A2=(ats ++ [pieceA p]).map atomDV:=⟨_,rfl⟩
   have hA2':ats.map atomDV ++ [.agg [.str (bs ((cutF p 40).getD 0 [])),.sl 1 ((listF p).map .int)]]=A2:=by rw [hA2,List.map_append];rfl
   rw [hA2']
   refine awp_loopw (fun m s=>∃ j,m=p.length - j∧j≤p.length∧s=mkS [(0,.d (.str (bs s0))),(2,.ptr 2 0),(5,.ptr 5 0),(6,.buf 25 9 1 (ps.map strD)),(7,.d (.int (k:Nat))),(9,.d (.int (j:Nat)))] [(2,[.d (.int 0),.nil,.nil]),(5,[.d (.int (nvP (nvL (ps.take k)) (p.take j):Nat)),.buf 49 57 2 A2,.buf 20 3 1 (out.map .int)])]) ?_ ?_
   ·refine ⟨_,_,?_,0,rfl,Nat.zero_le _,rfl⟩
    exact sleA
   ·rintro m s ⟨j,rfl,hj,rfl⟩
    repeat' (first | refine sq ?_ | refine stp ?_ | refine blk_o (by decide) ?_ | (apply cb;(focus (simp (disch:=(first | omega | (simp;omega))) only [go_sem,w64,g0,bs_size];try exact rfl));refine cok ?_) | (refine rgT ?_;intro K hK) | (refine dA ?_;intro K hK) | (with_reducible refine hK _ ?_;clear hK K) | (refine stq ?_;simp (disch:=(first | omega | (simp;omega))) only [go_sem,w64,g0,bs_size]) | refine as1 ?_ | fail)
    refine awp_if (p:=(j:Int)<p.length) (by simp (disch:=(first | omega | (simp;omega))) only [go_sem,w64,g0,bs_size]) ?_ ?_ <;> intro hc2
    ·have hj2:j<p.length:=by omega
     obtain ⟨c,hcc⟩:∃ c,c=p[j]:=⟨_,rfl⟩
     have hx:(bs p).extract j (j+1)=bs [c]:=by
      rw [bs_ext,List.take_succ_eq_append_getElem hj2,List.drop_append_of_le_length (by simp;omega),List.drop_of_length_le (by simp;omega),hcc]
      rfl
     have w1:IntKind.i64.wrap ((j:Int)+1)=((j+1:Nat):Int):=by rw [w64 (by omega)];omega
     have hnj:=(nvP_le (p.take j) _ hnk).2
     have hstep:nvP (nvL (ps.take k)) (p.take (j+1))=upC (nvP (nvL (ps.take k)) (p.take j)) c (5 - nvP (nvL (ps.take k)) (p.take j)):=by
      rw [List.take_succ_eq_append_getElem hj2,nvP_snoc,hcc]
     generalize nvP (nvL (ps.take k)) (p.take j)=nj at *
     repeat' (first | refine sq ?_ | refine stp ?_ | refine blk_o (by decide) ?_ | (apply cb;(focus (simp (disch:=(first | omega | (simp;omega))) only [go_sem,w64];try exact rfl));refine cok ?_) | (refine rgT ?_;intro K hK) | (refine dA ?_;intro K hK) | (with_reducible refine hK _ ?_;clear hK K) | (refine stq ?_;simp (disch:=(first | omega | (simp;omega))) only [go_sem,w64]) | refine as1 ?_ | fail)
     refine awp_loopw (fun m s=>∃ i v,m=5 - v∧v=nj+i∧v≤5∧s=mkS [(0,.d (.str (bs s0))),(2,.ptr 2 0),(5,.ptr 5 0),(6,.buf 25 9 1 (ps.map strD)),(7,.d (.int (k:Nat))),(9,.d (.int (j:Nat))),(10,.d (.int (v:Nat)))] [(2,[.d (.int 0),.nil,.nil]),(5,[.d (.int (upC nj c i:Nat)),.buf 49 57 2 A2,.buf 20 3 1 (out.map .int)])]) ?_ ?_
     ·refine ⟨_,_,?_,0,nj,rfl,rfl,hnj,rfl⟩
      exact sleA
     ·rintro m s ⟨i,v,rfl,hv,hv5,rfl⟩
      repeat' (first | refine sq ?_ | refine stp ?_ | refine blk_o (by decide) ?_ | (apply cb;(focus (simp (disch:=(first | omega | (simp;omega))) only [go_sem,w64];try exact rfl));refine cok ?_) | (refine rgT ?_;intro K hK) | (refine dA ?_;intro K hK) | (with_reducible refine hK _ ?_;clear hK K) | (refine stq ?_;simp (disch:=(first | omega | (simp;omega))) only [go_sem,w64]) | refine as1 ?_ | fail)
      refine awp_if (p:=(v:Int)<5) (by simp (disch:=(first | omega | (simp;omega))) only [go_sem,w64]) ?_ ?_ <;> intro hc3
      ·have w2:IntKind.i64.wrap ((v:Int)+1)=((v+1:Nat):Int):=by rw [w64 (by omega)];omega
       have hu:=upC_succ nj c i
       rw [← hv] at hu
       repeat' (first | refine sq ?_ | refine stp ?_ | refine blk_o (by decide) ?_ | (apply cb;(focus (simp (disch:=(first | omega | (simp;omega))) only [go_sem,w64];try exact rfl));refine cok ?_) | (refine rgT ?_;intro K hK) | (refine dA ?_;intro K hK) | (with_reducible refine hK _ ?_;clear hK K) | (refine stq ?_;simp (disch:=(first | omega | (simp;omega))) only [go_sem,w64]) | refine as1 ?_ | fail)
       (first | refine callA (varNameA (v:Nat)) ?_ | refine callD (varNameA (v:Nat)) ?_ | refine callE (varNameA (v:Nat)) ?_ | refine callF (varNameA (v:Nat)) ?_ ?_)
       cases hcv:(vn (v:Int) == [c]) with
       | true =>
        rw [if_pos hcv] at hu
        repeat' (first | refine sq ?_ | refine stp ?_ | refine blk_o (by decide) ?_ | (apply cb;(focus (simp (disch:=(first | omega | (simp;omega))) only [go_sem,w64,g0,w1,w2,hx,bs_size,strEq_bs,hcv];try exact rfl));refine cok ?_) | (refine rgT ?_;intro K hK) | (refine dA ?_;intro K hK) | (with_reducible refine hK _ ?_;clear hK K) | (refine stq ?_;simp (disch:=(first | omega | (simp;omega))) only [go_sem,w64,g0,w1,w2,hx,bs_size,strEq_bs,hcv]) | refine as1 ?_ | fail)
        refine ⟨5 - (v+1),_,by omega,?_,i+1,v+1,rfl,by omega,by omega,rfl⟩
        rw [hu]
        exact sleA
       | false =>
        rw [if_neg (by rw [hcv];exact fun h=>(by cases h))] at hu
        repeat' (first | refine sq ?_ | refine stp ?_ | refine blk_o (by decide) ?_ | (apply cb;(focus (simp (disch:=(first | omega | (simp;omega))) only [go_sem,w64,g0,w1,w2,hx,bs_size,strEq_bs,hcv];try exact rfl));refine cok ?_) | (refine rgT ?_;intro K hK) | (refine dA ?_;intro K hK) | (with_reducible refine hK _ ?_;clear hK K) | (refine stq ?_;simp (disch:=(first | omega | (simp;omega))) only [go_sem,w64,g0,w1,w2,hx,bs_size,strEq_bs,hcv]) | refine as1 ?_ | fail)
        refine ⟨5 - (v+1),_,by omega,?_,i+1,v+1,rfl,by omega,by omega,rfl⟩
        rw [hu]
        exact sleA
      ·obtain rfl:v=5:=by omega
       repeat' (first | refine sq ?_ | refine stp ?_ | refine blk_o (by decide) ?_ | (apply cb;(focus (simp (disch:=(first | omega | (simp;omega))) only [go_sem,w64,w1];try exact rfl));refine cok ?_) | (refine rgT ?_;intro K hK) | (refine dA ?_;intro K hK) | (with_reducible refine hK _ ?_;clear hK K) | (refine stq ?_;simp (disch:=(first | omega | (simp;omega))) only [go_sem,w64,w1]) | refine as1 ?_ | fail)
       refine ⟨p.length - (j+1),_,by omega,?_,j+1,rfl,by omega,rfl⟩
       rw [hstep,show i=5 - nj from by omega]
       exact sleA
    ·obtain rfl:j=p.length:=by omega
     rw [List.take_length]
     have w1:IntKind.i64.wrap ((k:Int)+1)=((k+1:Nat):Int):=by rw [w64 (by omega)];omega
     have hstep:nvL (ps.take (k+1))=nvP (nvL (ps.take k)) p:=by
      rw [List.take_succ_eq_append_getElem hk2,nvL,List.foldl_append,← hp];rfl
     rw [← hstep]
     repeat' (first | refine sq ?_ | refine stp ?_ | refine blk_o (by decide) ?_ | (apply cb;(focus (simp (disch:=(first | omega | (simp;omega))) only [go_sem,w64,w1];try exact rfl));refine cok ?_) | (refine rgT ?_;intro K hK) | (refine dA ?_;intro K hK) | (with_reducible refine hK _ ?_;clear hK K) | (refine stq ?_;simp (disch:=(first | omega | (simp;omega))) only [go_sem,w64,w1]) | refine as1 ?_ | fail)
     refine ⟨ps.length - (k+1),_,by omega,?_,k+1,ats ++ [pieceA p],rfl,by omega,?_,rfl⟩
     ·rw [← hA2]
      exact sleA
     ·rw [has,List.take_succ_eq_append_getElem hk2,List.map_append,← hp];rfl
  ·obtain rfl:k=ps.length:=by omega
   rw [List.take_length] at has ⊢
   have hNm:NmOK (ps.map pieceA):=by
    intro x hx
    obtain ⟨y,hy,rfl⟩:=List.mem_map.1 hx
    exact piece_nm (hsp y hy) _ (by simp)
   have hF:=formatA (nvL ps:Nat) (ps.map pieceA) out hNm
   rw [hf,← has] at hF
   rw [← has]
   have hne2:(s0 == ([]:List UInt8))=false:=by simpa using hne
   have c0:ByteArray.mk #[]=bs []:=rfl
   repeat' (first | refine sq ?_ | refine stp ?_ | refine blk_o (by decide) ?_ | (apply cb;(focus (simp (disch:=(first | omega | (simp;omega))) only [go_sem,w64,intsD];try exact rfl));refine cok ?_) | (refine rgS ?_;intro K hK) | (refine dA ?_;intro K hK) | (with_reducible refine hK _ ?_;clear hK K) | (refine stq ?_;simp (disch:=(first | omega | (simp;omega))) only [go_sem,w64,intsD]) | refine as1 ?_ | fail)
   (first | refine callA (hF) ?_ | refine callD (hF) ?_ | refine callE (hF) ?_ | refine callF (hF) ?_ ?_)
   have hss:(s0 == s0)=true:=by simp
   repeat' (first | refine sq ?_ | refine stp ?_ | refine blk_o (by decide) ?_ | (apply cb;(focus (simp (disch:=(first | omega | (simp;omega))) only [go_sem,w64,c0,strEq_bs,hss,hne2];try exact rfl));refine cok ?_) | (refine rgS ?_;intro K hK) | (refine dA ?_;intro K hK) | (with_reducible refine hK _ ?_;clear hK K) | (refine stq ?_;simp (disch:=(first | omega | (simp;omega))) only [go_sem,w64,c0,strEq_bs,hss,hne2]) | refine as1 ?_ | fail)
   refine end02 49 20 (by decide) (.inr rfl) (by simp (disch:=(first | omega | (simp;omega))) only [go_sem,w64];rfl) (r:=.tup [.st [.d (.int (nvL ps:Nat)),.buf 0 57 2 (ats.map atomDV),.buf 1 3 1 (out.map .int)],.d (.bool true)]) (by simp (disch:=(first | omega | (simp;omega))) only [go_sem,w64,outA2,outAs2];exact .refl _) ⟨rfl,rfl⟩
end Go.Proofs.YtkohkoiegmcghaaDoor
namespace Go.Proofs.YtkohkoiegmcghaaDoor
set_option linter.unusedSimpArgs false
set_option linter.unusedVariables false
attribute [local go_sem ↓] reduceIte
attribute [local go_sem] Nat.reduceEqDiff Nat.reduceLT Nat.reduceAdd Nat.reduceLeDiff Nat.reduceMul Nat.reduceBEq Nat.reduceSub reduceCtorEq Int.reduceLE Int.reduceNeg Int.reduceLT
open Go.RowKit
theorem getDA {xs:List AtomD} {i:Nat} {x:DV} (h:i<xs.length):(xs.map atomDV).getD i x=atomDV (ax xs i):=by simp [List.getD,ax,h]
theorem occ_mem {l:List Int} {v:Int}:occ l v=true↔v∈l:=by
 unfold occ findF
 rw [decide_eq_true_eq]
 constructor
 ·intro h
  split at h
  ·rename_i hl
   have hp:∀ (p:Nat→Prop) (n:Nat),firstIx p n<n→p (firstIx p n):=fun p n=>by
    induction n with
    | zero=>intro h;omega
    | succ n ih =>
     intro h
     simp only [firstIx] at h ⊢
     split
     ·rename_i h1;exact ih h1
     ·split
      ·assumption
      ·rename_i h1 h2;rw [if_neg h1,if_neg h2] at h;omega
   exact mem_ix.2 ⟨_,hl,hp _ _ hl⟩
  ·omega
 ·intro h
  have hp:∀ (p:Nat→Prop) (n j:Nat),j<n→p j→firstIx p n<n:=fun p n j hj hpj=>by
   induction n with
   | zero=>omega
   | succ n ih =>
    simp only [firstIx]
    split
    ·omega
    ·rename_i h1
     split
     ·omega
     ·rename_i h2
      by_cases e:j=n
      ·subst e;exact absurd hpj h2
      ·exact absurd (ih (by omega)) h1
  obtain ⟨i,hi,e⟩:=mem_ix.1 h
  rw [if_pos (hp (fun i=>ix l i=v) _ i hi e)]
  omega
noncomputable def adjTo (xs:List AtomD) (v x:Int):Nat→Bool
 | 0=>false
 | k+1=>adjTo xs v x k || (decide (x ≠ v) && (occ (ax xs k).vs v && occ (ax xs k).vs x))
end Go.Proofs.YtkohkoiegmcghaaDoor
namespace Go.Proofs.YtkohkoiegmcghaaDoor
set_option linter.unusedSimpArgs false
set_option linter.unusedVariables false
open Go.RowKit
def nmB (l:List UInt8):Bool:=decide (1≤l.length∧l.length≤4) && l.all fun c=>decide (97≤c.toNat∧c.toNat≤122)
def ndB (us:List Int):Bool:=(List.range us.length).all fun i=>!((us.take i).contains (ix us i))
def inB (nv:Int) (l:List Int):Bool:=l.all fun x=>decide (0≤x∧x≤nv - 1)
def qB (nv:Nat) (xs:List (List UInt8×List Int)) (us:List Int):Bool :=
 decide (1≤nv∧nv≤5) && decide (1≤xs.length∧xs.length≤4) && inB nv us && ndB us &&
 xs.all (fun x=>nmB x.1 && decide (1≤x.2.length∧x.2.length≤5) && inB nv x.2) && (List.range nv).all fun v=>xs.any fun x=>x.2.contains (v:Int)
def wB (x:List UInt8×List Int):List UInt8:=x.1 ++ varsF x.2
def jB:List (List UInt8×List Int)→List UInt8
 | []=>[]
 | x :: l=>wB x ++ (l.map fun y=>[44] ++ wB y).flatten
def knowB (s:List UInt8):Bool :=
 match cutF s 61 with
 | [w0,w1]=>(let ps:=cutF w1 44;let xs:=ps.map fun p=>((cutF p 40).getD 0 [],listF p);let us:=listF w0;qB (nvL ps) xs us && (varsF us ++ ([61] ++ jB xs) == s) && !(s == []) && decide (s.length≤1000))
 | _=>false
def mkAt (x:List UInt8×List Int):AtomD:=⟨bs x.1,x.2⟩
theorem nmB_ok {l:List UInt8} (h:nmB l=true):nameOK (bs l)=true:=by
 simp only [nmB,Bool.and_eq_true,decide_eq_true_eq,List.all_eq_true] at h
 refine nameOK_yes (by rw [bs_size];exact h.1) fun i hi=>?_
 rw [bs_size] at hi
 have h1:=h.2 l[i] (List.getElem_mem _)
 have e:sx (bs l) i=((l[i]).toNat:Int):=by
  unfold sx
  rw [dif_pos (by rw [bs_size];exact hi)]
  rfl
 rw [e];omega
theorem inB_ok {nv:Int} {l:List Int} (h:inB nv l=true):∀ i,i<l.length→0≤ix l i∧ix l i≤nv - 1:=fun i hi=>by
 simp only [inB,decide_eq_true_eq,List.all_eq_true] at h
 rw [ix_lt hi];exact h _ (List.getElem_mem _)
theorem occ_no {l:List Int} {v:Int}:¬ 0≤findF l v↔v ∉ l:=by
 rw [← occ_mem,occ,decide_eq_true_eq]
theorem ndB_ok {us:List Int} (h:ndB us=true) {i:Nat} (hi:i<us.length):ix us i ∉ us.take i:=by
 simp only [ndB,List.all_eq_true,List.mem_range,Bool.not_eq_true',List.contains_eq_mem,decide_eq_false_iff_not] at h
 exact h i hi
theorem qB_ok {nv:Nat} {xs:List (List UInt8×List Int)} {us:List Int} (h:qB nv xs us=true):qOK nv (xs.map mkAt) us=true:=by
 simp only [qB,Bool.and_eq_true,decide_eq_true_eq,List.all_eq_true,List.mem_range,List.any_eq_true] at h
 obtain ⟨⟨⟨⟨⟨h1,h2⟩,h3⟩,h4⟩,h5⟩,h6⟩:=h
 refine qOK_yes ⟨by omega,by rw [List.length_map];exact h2⟩ (fun i hi=>⟨inB_ok h3 i hi,?_⟩) (fun i hi=>?_) (fun v hv=>?_)
 ·rw [occ_no];exact ndB_ok h4 hi
 ·rw [List.length_map] at hi
  have hx:ax (xs.map mkAt) i=mkAt xs[i]:=by rw [ax_lt (by rw [List.length_map];exact hi)];simp
  rw [hx]
  obtain ⟨⟨a1,a2⟩,a3⟩:=h5 xs[i] (List.getElem_mem _)
  exact ⟨nmB_ok a1,a2,inB_ok a3⟩
 ·obtain ⟨x,hx,hc⟩:=h6 v (by omega)
  obtain ⟨i,hi,e⟩:=List.getElem_of_mem hx
  refine ⟨i,by rw [List.length_map];exact hi,?_⟩
  rw [ax_lt (by rw [List.length_map];exact hi),List.getElem_map,e,occ_mem]
  simpa [mkAt] using hc
theorem wB_ok (x:List UInt8×List Int):atomW (mkAt x)=wB x:=by simp [atomW,mkAt,wB,bs]
theorem jB_ok:∀ xs:List (List UInt8×List Int),joinF (xs.map mkAt)=jB xs
 | []=>rfl
 | x :: l=>by
  have e:((fun y=>[44] ++ atomW y) ∘ mkAt)=fun y=>[44] ++ wB y:=by funext y;simp [wB_ok]
  simp only [List.map_cons,joinF,jB,wB_ok,List.map_map,e]
def QFit (r:AV):Prop:=∃ (nv:Int) (xs:List AtomD) (us:List Int),qOK nv xs us=true∧NmOK xs∧r=.st [.d (.int nv),.buf 0 57 2 (xs.map atomDV),.buf 1 3 1 (us.map .int)]
theorem parseKnown {s:List UInt8} (h:knowB s=true):AFn 68 [.d (.str (bs s))] [] (fun r os=>∃ q,QFit q∧r=.tup [q,.d (.bool true)]∧os=[]):=by
 unfold knowB at h
 split at h
 ·rename_i w0 w1 hw
  simp only [Bool.and_eq_true,decide_eq_true_eq,beq_iff_eq,Bool.not_eq_true',beq_eq_false_iff_ne] at h
  obtain ⟨⟨⟨h1,h2⟩,h3⟩,h4⟩:=h
  have hxs:((cutF w1 44).map fun p=>((cutF p 40).getD 0 [],listF p)).map mkAt=(cutF w1 44).map pieceA:=by
   rw [List.map_map];rfl
  have hq:=qB_ok h1
  rw [hxs] at hq
  have hj:=jB_ok ((cutF w1 44).map fun p=>((cutF p 40).getD 0 [],listF p))
  rw [hxs] at hj
  have hnm:NmOK ((cutF w1 44).map pieceA):=fun x hx=>by
   obtain ⟨i,hi,e⟩:=List.getElem_of_mem hx
   obtain ⟨hn,_⟩:=(qOK_out hq).2.2.1 i hi
   rw [ax_lt hi,e] at hn
   unfold nameOK at hn
   simp only [decide_eq_true_eq] at hn
   omega
  have hP:=parseA s w0 w1 h4 hw (by unfold fmtF;rw [if_pos hq,hj];exact h2) h3
  refine afn_weak hP ?_
  rintro r os ⟨rfl,rfl⟩
  exact ⟨_,.refl _,_,⟨_,_,_,hq,hnm,rfl⟩,rfl,rfl⟩
 ·cases h
end Go.Proofs.YtkohkoiegmcghaaDoor
