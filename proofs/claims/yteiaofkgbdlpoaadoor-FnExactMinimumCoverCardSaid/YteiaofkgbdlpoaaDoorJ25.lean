/- Lemmas for the proof of FnExactMaximumPacking, part 25 of 27: no condition of their own. -/
import Derived.Test.YteiaofkgbdlpoaaDoorJ23
import Derived.Test.YteiaofkgbdlpoaaDoorJ24
import Derived.Test.YteiaofkgbdlpoaaDoorJ1
import Derived.Test.YteiaofkgbdlpoaaDoorJ22
namespace Go.Proofs.YteiaofkgbdlpoaaDoor
set_option linter.unusedSimpArgs false
set_option linter.unusedVariables false
attribute [local go_sem ↓] reduceIte
attribute [local go_sem] Nat.reduceEqDiff Nat.reduceLT Nat.reduceAdd Nat.reduceLeDiff Nat.reduceMul Nat.reduceBEq Nat.reduceSub reduceCtorEq Int.reduceLE Int.reduceNeg Int.reduceLT
open Go.RowKit
abbrev q1:RatD:=⟨1,1⟩
noncomputable def occQ (x:AtomD) (v:Int):RatD:=⟨if occ x.vs v=true then 1 else 0,1⟩
noncomputable def rowC (xs:List AtomD) (v:Int):List RatD:=xs.map fun x=>occQ x v
theorem getDA' {xs:List AtomD} {i:Nat} {x:DV} (h:i<xs.length):(xs.map atomDV).getD i x=atomDV (ax xs i):=by simp [List.getD,ax,h]
theorem rep_succ {α:Type} (n:Nat) (x:α):List.replicate (n+1) x=List.replicate n x ++ [x]:=by rw [List.replicate_succ']
noncomputable def cvA (vs:List Int) (xs:List AtomD):List (List RatD):=vs.map (rowC xs)
set_option maxRecDepth 100000 in
set_option maxHeartbeats 4000000 in
theorem implCoverOfG (nv:Int) (xs:List AtomD) (us vs:List Int) (hx:xs.length≤1000) (hv:vs.length≤1000):AFnG 30 [.d (queryD nv xs us),.d (intsD vs)] (fun r os=>r=.d (lpD (cvA vs xs) (List.replicate vs.length q1) (List.replicate xs.length q1))∧os=[]):=by
 refine afn_ofG (rv:=[.cell 4 30]) tyT_ok Tryd.func30 rfl (by decide +kernel) Tryd.ntmps30 rfl (by simp) ?_
 repeat' (first | refine sq ?_ | refine stp ?_ | refine blk_o (by decide) ?_ | (apply cb;(focus (simp (disch:=(first | omega | (simp;omega))) only [go_sem,w64,queryD,intsD];try exact rfl));refine cok ?_) | (refine rgT ?_;intro K hK) | (refine dA ?_;intro K hK) | (with_reducible refine hK _ ?_;clear hK K) | (refine stq ?_;simp (disch:=(first | omega | (simp;omega))) only [go_sem,w64,queryD,intsD]) | refine as1 ?_ | fail)
 refine awp_nilbufO 5 0 37 28 1 (l:=[.nil,.nil,.nil]) (by simp (disch:=(first | omega | (simp;omega))) only [go_sem,w64]) rfl ?_
 refine awp_nilbufO 5 1 43 43 2 (l:=[.buf 37 28 1 [],.nil,.nil]) (by simp (disch:=(first | omega | (simp;omega))) only [go_sem,w64]) rfl ?_
 refine awp_nilbufO 5 2 55 43 2 (l:=[.buf 37 28 1 [],.buf 43 43 2 [],.nil]) (by simp (disch:=(first | omega | (simp;omega))) only [go_sem,w64]) rfl ?_
 refine awp_loopw (fun mm s=>∃ i:Nat,mm=vs.length - i∧i≤vs.length∧s=mkS [(2,.ptr 2 0),(4,.ptr 4 0),(5,.ptr 5 0),(11,.d (.sl 1 (vs.map .int))),(12,.d (.int (vs.length:Nat))),(13,.d (.int (i:Nat)))] [(2,[.d (.int nv),.d (.sl 2 (xs.map atomDV)),.d (.sl 1 (us.map .int))]),(4,[.nil,.nil,.nil]),(5,[.buf 37 28 1 (((vs.take i).map (rowC xs)).map ratsD),.buf 43 43 2 ((List.replicate i q1).map ratDV),.buf 55 43 2 ([])])]) ?_ ?_
 ·refine ⟨_,_,?_,0,rfl,Nat.zero_le _,rfl⟩
  (refine sle_mk ?_ ?_ <;> simp (disch:=(first | omega | (simp;omega))) only [go_sem,w64,intsD,List.take_zero,List.map_nil,List.replicate_zero] <;> exact leafs)
 ·rintro mm s ⟨i,rfl,hi,rfl⟩
  have hvm:(vs.map DV.int).length=vs.length:=List.length_map ..
  have w4:IntKind.i64.wrap ((i:Int)+1)=((i+1:Nat):Int):=by rw [w64 (by omega)];rfl
  repeat' (first | refine sq ?_ | refine stp ?_ | refine blk_o (by decide) ?_ | (apply cb;(focus (simp (disch:=(first | omega | (simp;omega))) only [go_sem,w64];try exact rfl));refine cok ?_) | (refine rgT ?_;intro K hK) | (refine dA ?_;intro K hK) | (with_reducible refine hK _ ?_;clear hK K) | (refine stq ?_;simp (disch:=(first | omega | (simp;omega))) only [go_sem,w64]) | refine as1 ?_ | fail)
  refine awp_if (p:=(i:Int)<(vs.length:Nat)) (by simp (disch:=(first | omega | (simp;omega))) only [go_sem,w64]) ?_ ?_ <;> intro hc
  ·have hi2:i<vs.length:=by omega
   have g0:(vs.map DV.int).getD i (.bool false)=.int (vs.getD i 0):=by simp [List.getD,hi2]
   have ht:=take_mapI (rowC xs) vs 0 hi2
   generalize vs.getD i 0=v at *
   have hxm:(xs.map atomDV).length=xs.length:=List.length_map ..
   repeat' (first | refine sq ?_ | refine stp ?_ | refine blk_o (by decide) ?_ | (apply cb;(focus (simp (disch:=(first | omega | (simp;omega))) only [go_sem,w64,hvm,g0,hxm];try exact rfl));refine cok ?_) | (refine rgT ?_;intro K hK) | (refine dA ?_;intro K hK) | (with_reducible refine hK _ ?_;clear hK K) | (refine stq ?_;simp (disch:=(first | omega | (simp;omega))) only [go_sem,w64,hvm,g0,hxm]) | refine as1 ?_ | fail)
   refine awp_nilbuf 8 8 43 2 (by simp (disch:=(first | omega | (simp;omega))) only [go_sem,w64]) ?_
   refine awp_loopw (fun mm s=>∃ j:Nat,mm=xs.length - j∧j≤xs.length∧s=mkS [(2,.ptr 2 0),(4,.ptr 4 0),(5,.ptr 5 0),(11,.d (.sl 1 (vs.map .int))),(12,.d (.int (vs.length:Nat))),(13,.d (.int (i:Nat))),(7,.d (.int v)),(8,.buf 8 43 2 (((xs.take j).map fun x=>occQ x v).map ratDV)),(18,.d (.sl 2 (xs.map atomDV))),(19,.d (.int (xs.length:Nat))),(20,.d (.int (j:Nat)))] [(2,[.d (.int nv),.d (.sl 2 (xs.map atomDV)),.d (.sl 1 (us.map .int))]),(4,[.nil,.nil,.nil]),(5,[.buf 37 28 1 (((vs.take i).map (rowC xs)).map ratsD),.buf 43 43 2 ((List.replicate i q1).map ratDV),.buf 55 43 2 ([])])]) ?_ ?_
   ·refine ⟨_,_,?_,0,rfl,Nat.zero_le _,rfl⟩
    (refine sle_mk ?_ ?_ <;> simp (disch:=(first | omega | (simp;omega))) only [go_sem,w64,List.take_zero,List.map_nil] <;> exact leafs)
   ·rintro mm s ⟨j,rfl,hj,rfl⟩
    have w5:IntKind.i64.wrap ((j:Int)+1)=((j+1:Nat):Int):=by rw [w64 (by omega)];rfl
    repeat' (first | refine sq ?_ | refine stp ?_ | refine blk_o (by decide) ?_ | (apply cb;(focus (simp (disch:=(first | omega | (simp;omega))) only [go_sem,w64];try exact rfl));refine cok ?_) | (refine rgT ?_;intro K hK) | (refine dA ?_;intro K hK) | (with_reducible refine hK _ ?_;clear hK K) | (refine stq ?_;simp (disch:=(first | omega | (simp;omega))) only [go_sem,w64]) | refine as1 ?_ | fail)
    refine awp_if (p:=(j:Int)<(xs.length:Nat)) (by simp (disch:=(first | omega | (simp;omega))) only [go_sem,w64]) ?_ ?_ <;> intro hc2
    ·have hj2:j<xs.length:=by omega
     have r0:(xs.map atomDV).getD j (.bool false)=atomDV (ax xs j):=getDA' hj2
     have ht2:=take_mapI (fun x=>occQ x v) xs ⟨⟨#[]⟩,[]⟩ hj2
     have hb:(((xs.take j).map fun x=>occQ x v).map ratDV).length=j:=by rw [List.length_map,List.length_map,List.length_take];omega
     have eax:xs.getD j ⟨⟨#[]⟩,[]⟩=ax xs j:=rfl
     rw [eax] at ht2
     generalize ax xs j=x at *
     have hh:=implHasA x v
     have hbt:=implBitA (occ x.vs v)
     repeat' (first | refine sq ?_ | refine stp ?_ | refine blk_o (by decide) ?_ | (apply cb;(focus (simp (disch:=(first | omega | (simp;omega))) only [go_sem,w64,r0,atomDV,intsD];try exact rfl));refine cok ?_) | (refine rgT ?_;intro K hK) | (refine dA ?_;intro K hK) | (with_reducible refine hK _ ?_;clear hK K) | (refine stq ?_;simp (disch:=(first | omega | (simp;omega))) only [go_sem,w64,r0,atomDV,intsD]) | refine as1 ?_ | fail)
     (first | refine callA (hh) ?_ | refine callD (hh) ?_ | refine callE (hh) ?_ | refine callF (hh) ?_ ?_)
     repeat' (first | refine sq ?_ | refine stp ?_ | refine blk_o (by decide) ?_ | (apply cb;(focus (simp (disch:=(first | omega | (simp;omega))) only [go_sem,w64];try exact rfl));refine cok ?_) | (refine rgT ?_;intro K hK) | (refine dA ?_;intro K hK) | (with_reducible refine hK _ ?_;clear hK K) | (refine stq ?_;simp (disch:=(first | omega | (simp;omega))) only [go_sem,w64]) | refine as1 ?_ | fail)
     (first | refine callA (hbt) ?_ | refine callD (hbt) ?_ | refine callE (hbt) ?_ | refine callF (hbt) ?_ ?_)
     repeat' (first | refine sq ?_ | refine stp ?_ | refine blk_o (by decide) ?_ | (apply cb;(focus (simp (disch:=(first | omega | (simp;omega))) only [go_sem,w64,w5,hb];try exact rfl));refine cok ?_) | (refine rgT ?_;intro K hK) | (refine dA ?_;intro K hK) | (with_reducible refine hK _ ?_;clear hK K) | (refine stq ?_;simp (disch:=(first | omega | (simp;omega))) only [go_sem,w64,w5,hb]) | refine as1 ?_ | fail)
     refine ⟨xs.length - (j+1),_,by omega,?_,j+1,rfl,by omega,rfl⟩
     rw [ht2,List.map_append]
     (refine sle_mk ?_ ?_ <;> simp (disch:=(first | omega | (simp;omega))) only [go_sem,w64,List.map_cons,List.map_nil,occQ,ratDV] <;> exact leafs)
    ·obtain rfl:j=xs.length:=by omega
     have e1:(xs.take xs.length).map (fun x=>occQ x v)=rowC xs v:=by rw [List.take_length];rfl
     rw [e1]
     have hrm:((rowC xs v).map ratDV).length=xs.length:=by simp [rowC]
     have hb1:(((vs.take i).map (rowC xs)).map ratsD).length=i:=by rw [List.length_map,List.length_map,List.length_take];omega
     have hb2:((List.replicate i q1).map ratDV).length=i:=by simp
     repeat' (first | refine sq ?_ | refine stp ?_ | refine blk_o (by decide) ?_ | (apply cb;(focus (simp (disch:=(first | omega | (simp;omega))) only [go_sem,w64];try exact rfl));refine cok ?_) | (with_reducible refine hK _ ?_;clear hK K) | (refine stq ?_;simp (disch:=(first | omega | (simp;omega))) only [go_sem,w64]) | refine as1 ?_ | fail)
     refine awp_region' tyT_ok ?_;intro K hK
     repeat' (first | refine sq ?_ | refine stp ?_ | refine blk_o (by decide) ?_ | (apply cb;(focus (simp (disch:=(first | omega | (simp;omega))) only [go_sem,w64,hrm,hb1];try exact rfl));refine cok ?_) | (with_reducible refine hK _ ?_;clear hK K) | (refine stq ?_;simp (disch:=(first | omega | (simp;omega))) only [go_sem,w64,hrm,hb1]) | refine as1 ?_ | fail)
     refine awp_regionY (o:=?o) tyT_ok 2 ?h1 ?h2 ?h3
     case h1=>rfl
     case h2=>rfl
     intro K K2 hK hK2
     repeat' (first | refine sq ?_ | refine stp ?_ | refine blk_o (by decide) ?_ | (apply cb;(focus (simp (disch:=(first | omega | (simp;omega))) only [go_sem,w64,hb2];try exact rfl));refine cok ?_) | (with_reducible refine hK _ ?_;clear hK K) | (refine stq ?_;simp (disch:=(first | omega | (simp;omega))) only [go_sem,w64,hb2]) | refine as1 ?_ | fail)
     refine lloadG tyT_ok rfl rfl rfl rfl rfl (hK2 _ ?_)
     clear hK2 K2
     repeat' (first | refine sq ?_ | refine stp ?_ | refine blk_o (by decide) ?_ | (apply cb;(focus (simp (disch:=(first | omega | (simp;omega))) only [go_sem,w64,w4,hb2];try exact rfl));refine cok ?_) | (refine rgT ?_;intro K hK) | (refine dA ?_;intro K hK) | (with_reducible refine hK _ ?_;clear hK K) | (refine stq ?_;simp (disch:=(first | omega | (simp;omega))) only [go_sem,w64,w4,hb2]) | refine as1 ?_ | fail)
     refine ⟨vs.length - (i+1),_,by omega,?_,i+1,rfl,by omega,rfl⟩
     rw [ht,rep_succ,List.map_append,List.map_append]
     (refine sle_mk ?_ ?_ <;> simp (disch:=(first | omega | (simp;omega))) only [go_sem,w64,List.map_cons,List.map_nil,ratDV,q1] <;> exact leafs)
  ·obtain rfl:i=vs.length:=by omega
   rw [List.take_length]
   have hxm:(xs.map atomDV).length=xs.length:=List.length_map ..
   repeat' (first | refine sq ?_ | refine stp ?_ | refine blk_o (by decide) ?_ | (apply cb;(focus (simp (disch:=(first | omega | (simp;omega))) only [go_sem,w64,hxm];try exact rfl));refine cok ?_) | (refine rgT ?_;intro K hK) | (refine dA ?_;intro K hK) | (with_reducible refine hK _ ?_;clear hK K) | (refine stq ?_;simp (disch:=(first | omega | (simp;omega))) only [go_sem,w64,hxm]) | refine as1 ?_ | fail)
   refine awp_loopw (fun mm s=>∃ j:Nat,mm=xs.length - j∧j≤xs.length∧s=mkS [(2,.ptr 2 0),(4,.ptr 4 0),(5,.ptr 5 0),(48,.d (.int (xs.length:Nat))),(49,.d (.int (j:Nat)))] [(4,[.nil,.nil,.nil]),(5,[.buf 37 28 1 ((cvA vs xs).map ratsD),.buf 43 43 2 ((List.replicate vs.length q1).map ratDV),.buf 55 43 2 ((List.replicate j q1).map ratDV)])]) ?_ ?_
   ·refine ⟨_,_,?_,0,rfl,Nat.zero_le _,rfl⟩
    (refine sle_mk ?_ ?_ <;> simp (disch:=(first | omega | (simp;omega))) only [go_sem,w64,List.replicate_zero,List.map_nil,cvA] <;> exact leafs)
   ·rintro mm s ⟨j,rfl,hj,rfl⟩
    have w5:IntKind.i64.wrap ((j:Int)+1)=((j+1:Nat):Int):=by rw [w64 (by omega)];rfl
    have hb2:((List.replicate j q1).map ratDV).length=j:=by simp
    repeat' (first | refine sq ?_ | refine stp ?_ | refine blk_o (by decide) ?_ | (apply cb;(focus (simp (disch:=(first | omega | (simp;omega))) only [go_sem,w64];try exact rfl));refine cok ?_) | (refine rgT ?_;intro K hK) | (refine dA ?_;intro K hK) | (with_reducible refine hK _ ?_;clear hK K) | (refine stq ?_;simp (disch:=(first | omega | (simp;omega))) only [go_sem,w64]) | refine as1 ?_ | fail)
    refine awp_if (p:=(j:Int)<(xs.length:Nat)) (by simp (disch:=(first | omega | (simp;omega))) only [go_sem,w64]) ?_ ?_ <;> intro hc2
    ·repeat' (first | refine sq ?_ | refine stp ?_ | refine blk_o (by decide) ?_ | (apply cb;(focus (simp (disch:=(first | omega | (simp;omega))) only [go_sem,w64];try exact rfl));refine cok ?_) | (with_reducible refine hK _ ?_;clear hK K) | (refine stq ?_;simp (disch:=(first | omega | (simp;omega))) only [go_sem,w64]) | refine as1 ?_ | fail)
     refine awp_regionY (o:=?o2) tyT_ok 2 ?h4 ?h5 ?h6
     case h4=>rfl
     case h5=>rfl
     intro K K2 hK hK2
     repeat' (first | refine sq ?_ | refine stp ?_ | refine blk_o (by decide) ?_ | (apply cb;(focus (simp (disch:=(first | omega | (simp;omega))) only [go_sem,w64,hb2];try exact rfl));refine cok ?_) | (with_reducible refine hK _ ?_;clear hK K) | (refine stq ?_;simp (disch:=(first | omega | (simp;omega))) only [go_sem,w64,hb2]) | refine as1 ?_ | fail)
     refine lloadG tyT_ok rfl rfl rfl rfl rfl (hK2 _ ?_)
     clear hK2 K2
     repeat' (first | refine sq ?_ | refine stp ?_ | refine blk_o (by decide) ?_ | (apply cb;(focus (simp (disch:=(first | omega | (simp;omega))) only [go_sem,w64,w5,hb2];try exact rfl));refine cok ?_) | (refine rgT ?_;intro K hK) | (refine dA ?_;intro K hK) | (with_reducible refine hK _ ?_;clear hK K) | (refine stq ?_;simp (disch:=(first | omega | (simp;omega))) only [go_sem,w64,w5,hb2]) | refine as1 ?_ | fail)
     refine ⟨xs.length - (j+1),_,by omega,?_,j+1,rfl,by omega,rfl⟩
     rw [rep_succ,List.map_append]
     (refine sle_mk ?_ ?_ <;> simp (disch:=(first | omega | (simp;omega))) only [go_sem,w64,List.map_cons,List.map_nil,ratDV,q1] <;> exact leafs)
    ·obtain rfl:j=xs.length:=by omega
     repeat' (first | refine sq ?_ | refine stp ?_ | refine blk_o (by decide) ?_ | (apply cb;(focus (simp (disch:=(first | omega | (simp;omega))) only [go_sem,w64];try exact rfl));refine cok ?_) | (refine rgT ?_;intro K hK) | (refine dA ?_;intro K hK) | (with_reducible refine hK _ ?_;clear hK K) | (refine stq ?_;simp (disch:=(first | omega | (simp;omega))) only [go_sem,w64]) | refine as1 ?_ | fail)
     (refine endA (r:=.d (.agg [matD (cvA vs xs),ratsD (List.replicate vs.length q1),ratsD (List.replicate xs.length q1)])) ?_)
     exact ⟨rfl,rfl⟩
theorem implDefA' (nv:Int) (xs:List AtomD) (us:List Int) (hn:NmOK xs):AFn 31 [.d (queryD nv xs us)] [] (fun r os=>r=.d (intsD (defF nv xs us))∧os=[]):=by
 refine own_afn (fnOK (by kernel_rfl)) ?_
 rintro w G _ ⟨v1,_,rfl,h1,rfl⟩ hC
 obtain ⟨a,n,c,ua,un,uc,rfl,hI⟩:=cv_query hC hn h1
 exact implDefOrd nv a n c xs ua un uc us w hI (Nat.le_refl _)
noncomputable def cpF (nv:Int) (xs:List AtomD) (us:List Int):LpS:=if qOK nv xs us=true then ⟨cvA (idTo nv.toNat) xs,List.replicate nv.toNat q1,List.replicate xs.length q1,true⟩ else ⟨[],[],[],false⟩
theorem qOK_sz {nv:Int} {xs:List AtomD} {us:List Int} (h:qOK nv xs us=true):(1≤nv∧nv≤5)∧1≤xs.length∧xs.length≤4:=by
 obtain ⟨⟨v,n1,n2⟩,_⟩:=qOK_out h
 exact ⟨v,n1,by omega⟩
set_option maxRecDepth 100000 in
theorem implCoverG (nv:Int) (xs:List AtomD) (us:List Int) (hn:NmOK xs):AFnG 9 [.d (queryD nv xs us)] (fun r os=>r=ansP (cpF nv xs us)∧os=[]):=by
 refine afn_ofG (rv:=[.cell 2 30,.tmp 3]) tyT_ok Tryd.func9 rfl (by decide +kernel) Tryd.ntmps9 rfl (by simp) ?_
 repeat' (first | refine sq ?_ | refine stp ?_ | refine blk_o (by decide) ?_ | (apply cb;(focus (simp (disch:=(first | omega | (simp;omega))) only [go_sem,w64,queryD,intsD];try exact rfl));refine cok ?_) | (refine rgT ?_;intro K hK) | (refine dA ?_;intro K hK) | (with_reducible refine hK _ ?_;clear hK K) | (refine stq ?_;simp (disch:=(first | omega | (simp;omega))) only [go_sem,w64,queryD,intsD]) | refine as1 ?_ | fail)
 (first | refine callA (implValidQA nv xs us hn) ?_ | refine callD (implValidQA nv xs us hn) ?_ | refine callE (implValidQA nv xs us hn) ?_ | refine callF (implValidQA nv xs us hn) ?_ ?_)
 cases hq:qOK nv xs us with
 | false =>
  repeat' (first | refine sq ?_ | refine stp ?_ | refine blk_o (by decide) ?_ | (apply cb;(focus (simp (disch:=(first | omega | (simp;omega))) only [go_sem,w64,hq];try exact rfl));refine cok ?_) | (refine rgT ?_;intro K hK) | (refine dA ?_;intro K hK) | (with_reducible refine hK _ ?_;clear hK K) | (refine stq ?_;simp (disch:=(first | omega | (simp;omega))) only [go_sem,w64,hq]) | refine as1 ?_ | fail)
  refine endA (r:=.tup [.d (.agg [.sl 1 [],.sl 2 [],.sl 2 []]),.d (.bool false)]) (h:=(by simp (disch:=(first | omega | (simp;omega))) only [go_sem,w64];exact noLp)) ?_
  exact ⟨by unfold cpF;rw [if_neg (by rw [hq];simp)];rfl,rfl⟩
 | true =>
  obtain ⟨⟨v1,v2⟩,x1,x2⟩:=qOK_sz hq
  have hdl:(idTo nv.toNat).length=nv.toNat:=idTo_len _
  have hdf:=implDefA' nv xs us hn
  have e0:defF nv xs us=idTo nv.toNat:=by unfold defF;rw [if_pos hq]
  rw [e0] at hdf
  have hco:=implCoverOfG nv xs us (idTo nv.toNat) (by omega) (by omega)
  rw [hdl] at hco
  repeat' (first | refine sq ?_ | refine stp ?_ | refine blk_o (by decide) ?_ | (apply cb;(focus (simp (disch:=(first | omega | (simp;omega))) only [go_sem,w64,hq];try exact rfl));refine cok ?_) | (refine rgT ?_;intro K hK) | (with_reducible refine hK _ ?_;clear hK K) | (refine stq ?_;simp (disch:=(first | omega | (simp;omega))) only [go_sem,w64,hq]) | refine as1 ?_ | fail)
  refine awp_drawY (o:=?o) tyT_ok (by kernel_rfl) 3 ?h1 ?h2 ?h3 ?h4 ?h5 ?h6
  case h1=>rfl
  case h2=>rfl
  case h3=>kernel_rfl
  case h4=>kernel_rfl
  case h5=>kernel_rfl
  intro K K2 hK hK2
  repeat' (first | refine sq ?_ | refine stp ?_ | refine blk_o (by decide) ?_ | (apply cb;(focus (simp (disch:=(first | omega | (simp;omega))) only [go_sem,w64];try exact rfl));refine cok ?_) | (with_reducible refine hK _ ?_;clear hK K) | (refine stq ?_;simp (disch:=(first | omega | (simp;omega))) only [go_sem,w64]) | refine as1 ?_ | fail)
  (first | refine callA (hdf) ?_ | refine callD (hdf) ?_ | refine callE (hdf) ?_ | refine callF (hdf) ?_ ?_)
  repeat' (first | refine sq ?_ | refine stp ?_ | refine blk_o (by decide) ?_ | (apply cb;(focus (simp (disch:=(first | omega | (simp;omega))) only [go_sem,w64];try exact rfl));refine cok ?_) | (with_reducible refine hK _ ?_;clear hK K) | (refine stq ?_;simp (disch:=(first | omega | (simp;omega))) only [go_sem,w64]) | refine as1 ?_ | fail)
  refine lcallG 11 rfl rfl rfl (by decide) hco (by (repeat (first | exact ASubs.nil | refine ASubs.cons (by first | exact ASub.d _ | exact ASub.dd (dle_wh _ _) | exact ASub.dd (dle_rowsV _) | exact ASub.dd (dle_rowsW _) | exact ASub.dd (dle_relW _ _) | exact ASub.bufd _ _ (dle_rowsV _) | exact ASub.nil _ | exact ASub.nn | exact ASub.buf _ _ _ _ | exact ASub.loc _ | exact ASub.ptr _ _ _ rfl | exact ASub.arr _ _ _ _ rfl | exact ASub.any _ | exact ASub.std rfl (dle_refl _)) ?_));done) ?_
  rintro r os ⟨rfl,rfl⟩
  refine ⟨by simp,hK2 _ ?_⟩
  clear hK2 K2
  repeat' (first | refine sq ?_ | refine stp ?_ | refine blk_o (by decide) ?_ | (apply cb;(focus (simp (disch:=(first | omega | (simp;omega))) only [go_sem,w64,lpD,matD,ratsD];try exact rfl));refine cok ?_) | (refine rgT ?_;intro K hK) | (refine dA ?_;intro K hK) | (with_reducible refine hK _ ?_;clear hK K) | (refine stq ?_;simp (disch:=(first | omega | (simp;omega))) only [go_sem,w64,lpD,matD,ratsD]) | refine as1 ?_ | fail)
  (refine endA (r:=.tup [.d (.agg [matD (cvA (idTo nv.toNat) xs),ratsD (List.replicate nv.toNat q1),ratsD (List.replicate xs.length q1)]),.d (.bool true)]) ?_)
  exact ⟨by unfold cpF;rw [if_pos hq];rfl,rfl⟩
set_option maxHeartbeats 4000000 in
theorem specCoverA (nv:Int) (xs:List AtomD) (us:List Int) (hn:NmOK xs):AFn 7 [.d (queryD nv xs us)] [] (fun r os=>r=ansP (cpF nv xs us)∧os=[]):=by
 refine afn_of (rv:=[.cell 2 30,.tmp 3]) tyT_ok Tryd.func7 rfl (by decide +kernel) Tryd.ntmps7 rfl (by simp) ?_
 repeat' (first | refine sq ?_ | refine stp ?_ | refine blk_o (by decide) ?_ | (apply cb;(focus (simp (disch:=(first | omega | (simp;omega))) only [go_sem,w64,queryD,intsD];try exact rfl));refine cok ?_) | (refine rgT ?_;intro K hK) | (refine dA ?_;intro K hK) | (with_reducible refine hK _ ?_;clear hK K) | (refine stq ?_;simp (disch:=(first | omega | (simp;omega))) only [go_sem,w64,queryD,intsD]) | refine as1 ?_ | fail)
 (first | refine callA (specValidQA nv xs us hn) ?_ | refine callD (specValidQA nv xs us hn) ?_ | refine callE (specValidQA nv xs us hn) ?_ | refine callF (specValidQA nv xs us hn) ?_ ?_)
 cases hq:qOK nv xs us with
 | false =>
  repeat' (first | refine sq ?_ | refine stp ?_ | refine blk_o (by decide) ?_ | (apply cb;(focus (simp (disch:=(first | omega | (simp;omega))) only [go_sem,w64,hq];try exact rfl));refine cok ?_) | (refine rgT ?_;intro K hK) | (refine dA ?_;intro K hK) | (with_reducible refine hK _ ?_;clear hK K) | (refine stq ?_;simp (disch:=(first | omega | (simp;omega))) only [go_sem,w64,hq]) | refine as1 ?_ | fail)
  refine endA (r:=.tup [.d (.agg [.sl 1 [],.sl 2 [],.sl 2 []]),.d (.bool false)]) (h:=(by simp (disch:=(first | omega | (simp;omega))) only [go_sem,w64];exact noLp)) ?_
  exact ⟨by unfold cpF;rw [if_neg (by rw [hq];simp)];rfl,rfl⟩
 | true =>
  obtain ⟨⟨v1,v2⟩,x1,x2⟩:=qOK_sz hq
  obtain ⟨m,rfl⟩:∃ m:Nat,nv=m:=⟨nv.toNat,by omega⟩
  have hxm:(xs.map atomDV).length=xs.length:=List.length_map ..
  repeat' (first | refine sq ?_ | refine stp ?_ | refine blk_o (by decide) ?_ | (apply cb;(focus (simp (disch:=(first | omega | (simp;omega))) only [go_sem,w64,hq];try exact rfl));refine cok ?_) | (refine rgS ?_;intro K hK) | (refine dA ?_;intro K hK) | (with_reducible refine hK _ ?_;clear hK K) | (refine stq ?_;simp (disch:=(first | omega | (simp;omega))) only [go_sem,w64,hq]) | refine as1 ?_ | fail)
  refine awp_nilbufO 4 0 45 28 1 (l:=[.nil,.nil,.nil]) (by simp (disch:=(first | omega | (simp;omega))) only [go_sem,w64]) rfl ?_
  refine awp_nilbufO 4 1 51 43 2 (l:=[.buf 45 28 1 [],.nil,.nil]) (by simp (disch:=(first | omega | (simp;omega))) only [go_sem,w64]) rfl ?_
  refine awp_nilbufO 4 2 64 43 2 (l:=[.buf 45 28 1 [],.buf 51 43 2 [],.nil]) (by simp (disch:=(first | omega | (simp;omega))) only [go_sem,w64]) rfl ?_
  refine awp_loopw (fun mm s=>∃ i:Nat,mm=m - i∧i≤m∧s=mkS [(1,.ptr 1 0),(2,.ptr 2 0),(4,.ptr 4 0),(5,.d (.int (i:Nat)))] [(1,[.d (.int (m:Nat)),.d (.sl 2 (xs.map atomDV)),.d (.sl 1 (us.map .int))]),(2,[.nil,.nil,.nil]),(4,[.buf 45 28 1 ((cvA (idTo i) xs).map ratsD),.buf 51 43 2 ((List.replicate i q1).map ratDV),.buf 64 43 2 ([])])]) ?_ ?_
  ·refine ⟨_,_,?_,0,rfl,Nat.zero_le _,rfl⟩
   have e:cvA (idTo 0) xs=[]:=rfl
   (refine sle_mk ?_ ?_ <;> simp (disch:=(first | omega | (simp;omega))) only [go_sem,w64,e,List.map_nil,List.replicate_zero] <;> exact leafs)
  ·rintro mm s ⟨i,rfl,hi,rfl⟩
   have w4:IntKind.i64.wrap ((i:Int)+1)=((i+1:Nat):Int):=by rw [w64 (by omega)];rfl
   repeat' (first | refine sq ?_ | refine stp ?_ | refine blk_o (by decide) ?_ | (apply cb;(focus (simp (disch:=(first | omega | (simp;omega))) only [go_sem,w64];try exact rfl));refine cok ?_) | (refine rgT ?_;intro K hK) | (refine dA ?_;intro K hK) | (with_reducible refine hK _ ?_;clear hK K) | (refine stq ?_;simp (disch:=(first | omega | (simp;omega))) only [go_sem,w64]) | refine as1 ?_ | fail)
   refine awp_if (p:=(i:Int)<(m:Nat)) (by simp (disch:=(first | omega | (simp;omega))) only [go_sem,w64]) ?_ ?_ <;> intro hc
   ·have hb1:((cvA (idTo i) xs).map ratsD).length=i:=by simp [cvA,idTo_len]
    have hb2:((List.replicate i q1).map ratDV).length=i:=by simp
    have ht:cvA (idTo (i+1)) xs=cvA (idTo i) xs ++ [rowC xs i]:=by unfold cvA;rw [idTo_succ,List.map_append];rfl
    repeat' (first | refine sq ?_ | refine stp ?_ | refine blk_o (by decide) ?_ | (apply cb;(focus (simp (disch:=(first | omega | (simp;omega))) only [go_sem,w64,hxm];try exact rfl));refine cok ?_) | (refine rgT ?_;intro K hK) | (refine dA ?_;intro K hK) | (with_reducible refine hK _ ?_;clear hK K) | (refine stq ?_;simp (disch:=(first | omega | (simp;omega))) only [go_sem,w64,hxm]) | refine as1 ?_ | fail)
    refine awp_loopw (fun mm s=>∃ j:Nat,mm=xs.length - j∧j≤xs.length∧s=mkS [(1,.ptr 1 0),(2,.ptr 2 0),(4,.ptr 4 0),(5,.d (.int (i:Nat))),(6,.buf 21 43 2 (((xs.take j).map fun x=>occQ x i).map ratDV)),(7,.d (.int (j:Nat)))] [(1,[.d (.int (m:Nat)),.d (.sl 2 (xs.map atomDV)),.d (.sl 1 (us.map .int))]),(2,[.nil,.nil,.nil]),(4,[.buf 45 28 1 ((cvA (idTo i) xs).map ratsD),.buf 51 43 2 ((List.replicate i q1).map ratDV),.buf 64 43 2 ([])])]) ?_ ?_
    ·refine ⟨_,_,?_,0,rfl,Nat.zero_le _,rfl⟩
     (refine sle_mk ?_ ?_ <;> simp (disch:=(first | omega | (simp;omega))) only [go_sem,w64,List.take_zero,List.map_nil] <;> exact leafs)
    ·rintro mm s ⟨j,rfl,hj,rfl⟩
     have w5:IntKind.i64.wrap ((j:Int)+1)=((j+1:Nat):Int):=by rw [w64 (by omega)];rfl
     repeat' (first | refine sq ?_ | refine stp ?_ | refine blk_o (by decide) ?_ | (apply cb;(focus (simp (disch:=(first | omega | (simp;omega))) only [go_sem,w64,hxm];try exact rfl));refine cok ?_) | (refine rgT ?_;intro K hK) | (refine dA ?_;intro K hK) | (with_reducible refine hK _ ?_;clear hK K) | (refine stq ?_;simp (disch:=(first | omega | (simp;omega))) only [go_sem,w64,hxm]) | refine as1 ?_ | fail)
     refine awp_if (p:=(j:Int)<(xs.length:Nat)) (by simp (disch:=(first | omega | (simp;omega))) only [go_sem,w64,hxm]) ?_ ?_ <;> intro hc2
     ·have hj2:j<xs.length:=by omega
      have r0:(xs.map atomDV).getD j (.bool false)=atomDV (ax xs j):=getDA' hj2
      have ht2:=take_mapI (fun x=>occQ x i) xs ⟨⟨#[]⟩,[]⟩ hj2
      have hb:(((xs.take j).map fun x=>occQ x i).map ratDV).length=j:=by rw [List.length_map,List.length_map,List.length_take];omega
      have eax:xs.getD j ⟨⟨#[]⟩,[]⟩=ax xs j:=rfl
      rw [eax] at ht2
      generalize ax xs j=x at *
      have hh:=specHasA x i
      repeat' (first | refine sq ?_ | refine stp ?_ | refine blk_o (by decide) ?_ | (apply cb;(focus (simp (disch:=(first | omega | (simp;omega))) only [go_sem,w64,r0,atomDV,intsD,hxm];try exact rfl));refine cok ?_) | (refine rgT ?_;intro K hK) | (refine dA ?_;intro K hK) | (with_reducible refine hK _ ?_;clear hK K) | (refine stq ?_;simp (disch:=(first | omega | (simp;omega))) only [go_sem,w64,r0,atomDV,intsD,hxm]) | refine as1 ?_ | fail)
      (first | refine callA (hh) ?_ | refine callD (hh) ?_ | refine callE (hh) ?_ | refine callF (hh) ?_ ?_)
      cases hoc:occ x.vs i with
      | true =>
       have eo:occQ x i=⟨1,1⟩:=by unfold occQ;rw [hoc];rfl
       repeat' (first | refine sq ?_ | refine stp ?_ | refine blk_o (by decide) ?_ | (apply cb;(focus (simp (disch:=(first | omega | (simp;omega))) only [go_sem,w64,w5,hb,hxm];try exact rfl));refine cok ?_) | (refine rgT ?_;intro K hK) | (refine dA ?_;intro K hK) | (with_reducible refine hK _ ?_;clear hK K) | (refine stq ?_;simp (disch:=(first | omega | (simp;omega))) only [go_sem,w64,w5,hb,hxm]) | refine as1 ?_ | fail)
       refine ⟨xs.length - (j+1),_,by omega,?_,j+1,rfl,by omega,rfl⟩
       rw [ht2,List.map_append]
       (refine sle_mk ?_ ?_ <;> simp (disch:=(first | omega | (simp;omega))) only [go_sem,w64,List.map_cons,List.map_nil,eo,ratDV] <;> exact leafs)
      | false =>
       have eo:occQ x i=⟨0,1⟩:=by unfold occQ;rw [hoc];rfl
       repeat' (first | refine sq ?_ | refine stp ?_ | refine blk_o (by decide) ?_ | (apply cb;(focus (simp (disch:=(first | omega | (simp;omega))) only [go_sem,w64,w5,hb,hxm];try exact rfl));refine cok ?_) | (refine rgT ?_;intro K hK) | (refine dA ?_;intro K hK) | (with_reducible refine hK _ ?_;clear hK K) | (refine stq ?_;simp (disch:=(first | omega | (simp;omega))) only [go_sem,w64,w5,hb,hxm]) | refine as1 ?_ | fail)
       refine ⟨xs.length - (j+1),_,by omega,?_,j+1,rfl,by omega,rfl⟩
       rw [ht2,List.map_append]
       (refine sle_mk ?_ ?_ <;> simp (disch:=(first | omega | (simp;omega))) only [go_sem,w64,List.map_cons,List.map_nil,eo,ratDV] <;> exact leafs)
     ·obtain rfl:j=xs.length:=by omega
      have e1:(xs.take xs.length).map (fun x=>occQ x i)=rowC xs i:=by rw [List.take_length];rfl
      rw [e1]
      have hrm:((rowC xs i).map ratDV).length=xs.length:=by simp [rowC]
      repeat' (first | refine sq ?_ | refine stp ?_ | refine blk_o (by decide) ?_ | (apply cb;(focus (simp (disch:=(first | omega | (simp;omega))) only [go_sem,w64,hrm,hb1,hb2,w4,hxm];try exact rfl));refine cok ?_) | (refine rgT ?_;intro K hK) | (refine dA ?_;intro K hK) | (with_reducible refine hK _ ?_;clear hK K) | (refine stq ?_;simp (disch:=(first | omega | (simp;omega))) only [go_sem,w64,hrm,hb1,hb2,w4,hxm]) | refine as1 ?_ | fail)
      refine ⟨m - (i+1),_,by omega,?_,i+1,rfl,by omega,rfl⟩
      rw [ht,rep_succ,List.map_append,List.map_append]
      (refine sle_mk ?_ ?_ <;> simp (disch:=(first | omega | (simp;omega))) only [go_sem,w64,List.map_cons,List.map_nil,ratDV,q1] <;> exact leafs)
   ·obtain rfl:i=m:=by omega
    repeat' (first | refine sq ?_ | refine stp ?_ | refine blk_o (by decide) ?_ | (apply cb;(focus (simp (disch:=(first | omega | (simp;omega))) only [go_sem,w64];try exact rfl));refine cok ?_) | (refine rgT ?_;intro K hK) | (refine dA ?_;intro K hK) | (with_reducible refine hK _ ?_;clear hK K) | (refine stq ?_;simp (disch:=(first | omega | (simp;omega))) only [go_sem,w64]) | refine as1 ?_ | fail)
    refine awp_loopw (fun mm s=>∃ j:Nat,mm=xs.length - j∧j≤xs.length∧s=mkS [(1,.ptr 1 0),(2,.ptr 2 0),(4,.ptr 4 0),(9,.d (.int (j:Nat)))] [(1,[.d (.int (i:Nat)),.d (.sl 2 (xs.map atomDV)),.d (.sl 1 (us.map .int))]),(2,[.nil,.nil,.nil]),(4,[.buf 45 28 1 ((cvA (idTo i) xs).map ratsD),.buf 51 43 2 ((List.replicate i q1).map ratDV),.buf 64 43 2 ((List.replicate j q1).map ratDV)])]) ?_ ?_
    ·refine ⟨_,_,?_,0,rfl,Nat.zero_le _,rfl⟩
     (refine sle_mk ?_ ?_ <;> simp (disch:=(first | omega | (simp;omega))) only [go_sem,w64,List.replicate_zero,List.map_nil] <;> exact leafs)
    ·rintro mm s ⟨j,rfl,hj,rfl⟩
     have w5:IntKind.i64.wrap ((j:Int)+1)=((j+1:Nat):Int):=by rw [w64 (by omega)];rfl
     have hb2:((List.replicate j q1).map ratDV).length=j:=by simp
     repeat' (first | refine sq ?_ | refine stp ?_ | refine blk_o (by decide) ?_ | (apply cb;(focus (simp (disch:=(first | omega | (simp;omega))) only [go_sem,w64,hxm];try exact rfl));refine cok ?_) | (refine rgT ?_;intro K hK) | (refine dA ?_;intro K hK) | (with_reducible refine hK _ ?_;clear hK K) | (refine stq ?_;simp (disch:=(first | omega | (simp;omega))) only [go_sem,w64,hxm]) | refine as1 ?_ | fail)
     refine awp_if (p:=(j:Int)<(xs.length:Nat)) (by simp (disch:=(first | omega | (simp;omega))) only [go_sem,w64,hxm]) ?_ ?_ <;> intro hc2
     ·repeat' (first | refine sq ?_ | refine stp ?_ | refine blk_o (by decide) ?_ | (apply cb;(focus (simp (disch:=(first | omega | (simp;omega))) only [go_sem,w64,w5,hb2];try exact rfl));refine cok ?_) | (refine rgT ?_;intro K hK) | (refine dA ?_;intro K hK) | (with_reducible refine hK _ ?_;clear hK K) | (refine stq ?_;simp (disch:=(first | omega | (simp;omega))) only [go_sem,w64,w5,hb2]) | refine as1 ?_ | fail)
      refine ⟨xs.length - (j+1),_,by omega,?_,j+1,rfl,by omega,rfl⟩
      rw [rep_succ,List.map_append]
      (refine sle_mk ?_ ?_ <;> simp (disch:=(first | omega | (simp;omega))) only [go_sem,w64,List.map_cons,List.map_nil,ratDV,q1] <;> exact leafs)
     ·obtain rfl:j=xs.length:=by omega
      repeat' (first | refine sq ?_ | refine stp ?_ | refine blk_o (by decide) ?_ | (apply cb;(focus (simp (disch:=(first | omega | (simp;omega))) only [go_sem,w64];try exact rfl));refine cok ?_) | (refine rgT ?_;intro K hK) | (refine dA ?_;intro K hK) | (with_reducible refine hK _ ?_;clear hK K) | (refine stq ?_;simp (disch:=(first | omega | (simp;omega))) only [go_sem,w64]) | refine as1 ?_ | fail)
      (refine endA (r:=.tup [.d (.agg [matD (cvA (idTo i) xs),ratsD (List.replicate i q1),ratsD (List.replicate xs.length q1)]),.d (.bool true)]) ?_)
      exact ⟨by unfold cpF;rw [if_pos hq];rfl,rfl⟩
end Go.Proofs.YteiaofkgbdlpoaaDoor
namespace Go.Proofs.YteiaofkgbdlpoaaDoor
set_option linter.unusedSimpArgs false
set_option linter.unusedVariables false
attribute [local go_sem ↓] reduceIte
attribute [local go_sem] Nat.reduceEqDiff Nat.reduceLT Nat.reduceAdd Nat.reduceLeDiff Nat.reduceMul Nat.reduceBEq Nat.reduceSub reduceCtorEq Int.reduceLE Int.reduceNeg Int.reduceLT
open Go.RowKit
noncomputable def mcF (nv:Int) (xs:List AtomD) (us:List Int):BestS:=mnF (cpF nv xs us).A (cpF nv xs us).B (cpF nv xs us).C
noncomputable def dpF (nv:Int) (xs:List AtomD) (us:List Int):LpS:=dlF (cpF nv xs us).A (cpF nv xs us).B (cpF nv xs us).C
noncomputable def mpF (nv:Int) (xs:List AtomD) (us:List Int):BestS:=mxF (dpF nv xs us).A (dpF nv xs us).B (dpF nv xs us).C
structure SmallP (p:LpS):Prop where
 a:p.A.length≤1048576
 r:∀ i,i<p.A.length→(mx p.A i).length≤1048576
 b:p.B.length≤1048576
 c:p.C.length≤1048576
theorem small0:SmallP ⟨[],[],[],false⟩:=⟨Nat.zero_le _,fun i hi=>absurd hi (Nat.not_lt_zero _),Nat.zero_le _,Nat.zero_le _⟩
theorem cp_small (nv:Int) (xs:List AtomD) (us:List Int):SmallP (cpF nv xs us):=by
 unfold cpF
 split
 ·rename_i h
  obtain ⟨v,x1,x2⟩:=qOK_sz h
  refine ⟨?_,fun i hi=>?_,?_,?_⟩
  ·simp [cvA,idTo_len];omega
  ·have hi2:i<(idTo nv.toNat).length:=by simpa [cvA] using hi
   have:mx (cvA (idTo nv.toNat) xs) i=rowC xs (idTo nv.toNat)[i]:=by simp [mx,cvA,hi2,List.getD]
   rw [this];simp [rowC];omega
  ·simp;omega
  ·simp;omega
 ·exact small0
theorem mc_sz (nv:Int) (xs:List AtomD) (us:List Int):(mcF nv xs us).pt.length≤1048576:=mn_sz _ _ _
theorem cpF_no {nv:Int} {xs:List AtomD} {us:List Int} (h:(cpF nv xs us).ok=false):cpF nv xs us=⟨[],[],[],false⟩:=by
 unfold cpF at h ⊢
 split
 ·rename_i hq;rw [if_pos hq] at h;cases h
 ·rfl
theorem mc_no {nv:Int} {xs:List AtomD} {us:List Int} (h:(cpF nv xs us).ok=false):mcF nv xs us=best0:=by unfold mcF;rw [cpF_no h];rfl
section
variable (nv:Int) (xs:List AtomD) (us:List Int) (hn:NmOK xs)
include hn
set_option maxRecDepth 100000 in
set_option maxHeartbeats 2000000 in
theorem implMinCoverG:AFnG 16 [.d (queryD nv xs us)] (fun r os=>r=ansB (mcF nv xs us)∧os=[]):=by
 refine afn_ofG (rv:=[.tmp 2,.cell 3 43,.tmp 4]) tyW_ok Tryd.func16 rfl (by decide +kernel) Tryd.ntmps16 rfl (by simp) ?_
 have hcv:=implCoverG nv xs us hn
 have hsm:=cp_small nv xs us
 unfold mcF
 generalize cpF nv xs us=p at *
 obtain ⟨pa,pr,pb,pc⟩:=hsm
 have hmn:=implMinA p.A p.B p.C pa pr pb pc
 generalize mnF p.A p.B p.C=F at *
 repeat' (first | refine sq ?_ | refine stp ?_ | refine blk_o (by decide) ?_ | (apply cb;(focus (simp (disch:=(first | omega | (simp;omega))) only [go_sem,w64];try exact rfl));refine cok ?_) | (with_reducible refine hK _ ?_;clear hK K) | (refine stq ?_;simp (disch:=(first | omega | (simp;omega))) only [go_sem,w64]) | refine as1 ?_ | fail)
 refine awp_region' tyW_ok ?_;intro K hK
 repeat' (first | refine sq ?_ | refine stp ?_ | refine blk_o (by decide) ?_ | (apply cb;(focus (simp (disch:=(first | omega | (simp;omega))) only [go_sem,w64,queryD,intsD];try exact rfl));refine cok ?_) | (with_reducible refine hK _ ?_;clear hK K) | (refine stq ?_;simp (disch:=(first | omega | (simp;omega))) only [go_sem,w64,queryD,intsD]) | refine as1 ?_ | fail)
 refine awp_regionY (o:=?o) tyW_ok 1 ?h1 ?h2 ?h3
 case h1=>rfl
 case h2=>rfl
 intro K K2 hK hK2
 repeat' (first | refine sq ?_ | refine stp ?_ | refine blk_o (by decide) ?_ | (apply cb;(focus (simp (disch:=(first | omega | (simp;omega))) only [go_sem,w64];try exact rfl));refine cok ?_) | (with_reducible refine hK _ ?_;clear hK K) | (refine stq ?_;simp (disch:=(first | omega | (simp;omega))) only [go_sem,w64]) | refine as1 ?_ | fail)
 refine lcallG 9 rfl rfl rfl (by decide) hcv (by (repeat (first | exact ASubs.nil | refine ASubs.cons (by first | exact ASub.d _ | exact ASub.dd (dle_wh _ _) | exact ASub.dd (dle_rowsV _) | exact ASub.dd (dle_rowsW _) | exact ASub.dd (dle_relW _ _) | exact ASub.bufd _ _ (dle_rowsV _) | exact ASub.nil _ | exact ASub.nn | exact ASub.buf _ _ _ _ | exact ASub.loc _ | exact ASub.ptr _ _ _ rfl | exact ASub.arr _ _ _ _ rfl | exact ASub.any _ | exact ASub.std rfl (dle_refl _)) ?_));done) ?_
 rintro r os ⟨rfl,rfl⟩
 refine ⟨by simp,hK2 _ ?_⟩
 clear hK2 K2
 repeat' (first | refine sq ?_ | refine stp ?_ | refine blk_o (by decide) ?_ | (apply cb;(focus (simp (disch:=(first | omega | (simp;omega))) only [go_sem,w64,ansP,lpD,matD,ratsD];try exact rfl));refine cok ?_) | (refine rgW ?_;intro K hK) | (refine dA ?_;intro K hK) | (with_reducible refine hK _ ?_;clear hK K) | (refine stq ?_;simp (disch:=(first | omega | (simp;omega))) only [go_sem,w64,ansP,lpD,matD,ratsD]) | refine as1 ?_ | fail)
 (first | refine callA (hmn) ?_ | refine callD (hmn) ?_ | refine callE (hmn) ?_ | refine callF (hmn) ?_ ?_)
 repeat' (first | refine sq ?_ | refine stp ?_ | refine blk_o (by decide) ?_ | (apply cb;(focus (simp (disch:=(first | omega | (simp;omega))) only [go_sem,w64,ansB,ratDV];try exact rfl));refine cok ?_) | (refine rgW ?_;intro K hK) | (refine dA ?_;intro K hK) | (with_reducible refine hK _ ?_;clear hK K) | (refine stq ?_;simp (disch:=(first | omega | (simp;omega))) only [go_sem,w64,ansB,ratDV]) | refine as1 ?_ | fail)
 (refine endA (r:=.tup [.d (whQ F.pt),.d (.agg [.int F.val.num,.int F.val.den]),.d (.bool F.found)]) ?_)
 exact ⟨rfl,rfl⟩
set_option maxHeartbeats 2000000 in
theorem specMinCoverA:AFn 15 [.d (queryD nv xs us)] [] (fun r os=>r=ansBS (mcF nv xs us)∧os=[]):=by
 refine afn_of (rv:=[.tmp 2,.cell 3 43,.tmp 4]) tyT_ok Tryd.func15 rfl (by decide +kernel) Tryd.ntmps15 rfl (by simp) ?_
 have hcv:=specCoverA nv xs us hn
 have hsm:=cp_small nv xs us
 have hno:=mc_no (nv:=nv) (xs:=xs) (us:=us)
 unfold mcF at *
 generalize cpF nv xs us=p at *
 obtain ⟨pa,pr,pb,pc⟩:=hsm
 repeat' (first | refine sq ?_ | refine stp ?_ | refine blk_o (by decide) ?_ | (apply cb;(focus (simp (disch:=(first | omega | (simp;omega))) only [go_sem,w64,queryD,intsD];try exact rfl));refine cok ?_) | (refine rgT ?_;intro K hK) | (refine dA ?_;intro K hK) | (with_reducible refine hK _ ?_;clear hK K) | (refine stq ?_;simp (disch:=(first | omega | (simp;omega))) only [go_sem,w64,queryD,intsD]) | refine as1 ?_ | fail)
 (first | refine callA (hcv) ?_ | refine callD (hcv) ?_ | refine callE (hcv) ?_ | refine callF (hcv) ?_ ?_)
 cases hok:p.ok with
 | false =>
  repeat' (first | refine sq ?_ | refine stp ?_ | refine blk_o (by decide) ?_ | (apply cb;(focus (simp (disch:=(first | omega | (simp;omega))) only [go_sem,w64,ansP,hok,lpD,matD,ratsD];try exact rfl));refine cok ?_) | (refine rgT ?_;intro K hK) | (refine dA ?_;intro K hK) | (with_reducible refine hK _ ?_;clear hK K) | (refine stq ?_;simp (disch:=(first | omega | (simp;omega))) only [go_sem,w64,ansP,hok,lpD,matD,ratsD]) | refine as1 ?_ | fail)
  (refine endA (r:=.tup [.d (.sl 2 []),.d (.agg [.int 0,.int 0]),.d (.bool false)]) ?_)
  exact ⟨by rw [hno hok];rfl,rfl⟩
 | true =>
  have hmn:=specMinA p.A p.B p.C pa pb pc
  generalize mnF p.A p.B p.C=F at *
  repeat' (first | refine sq ?_ | refine stp ?_ | refine blk_o (by decide) ?_ | (apply cb;(focus (simp (disch:=(first | omega | (simp;omega))) only [go_sem,w64,ansP,hok,lpD,matD,ratsD];try exact rfl));refine cok ?_) | (refine rgT ?_;intro K hK) | (with_reducible refine hK _ ?_;clear hK K) | (refine stq ?_;simp (disch:=(first | omega | (simp;omega))) only [go_sem,w64,ansP,hok,lpD,matD,ratsD]) | refine as1 ?_ | fail)
  (first | refine callA (hmn) ?_ | refine callD (hmn) ?_ | refine callE (hmn) ?_ | refine callF (hmn) ?_ ?_)
  repeat' (first | refine sq ?_ | refine stp ?_ | refine blk_o (by decide) ?_ | (apply cb;(focus (simp (disch:=(first | omega | (simp;omega))) only [go_sem,w64,ansBS,ratDV];try exact rfl));refine cok ?_) | (refine rgT ?_;intro K hK) | (with_reducible refine hK _ ?_;clear hK K) | (refine stq ?_;simp (disch:=(first | omega | (simp;omega))) only [go_sem,w64,ansBS,ratDV]) | refine as1 ?_ | fail)
  refine awp_drawQ [3] tyT_ok (by kernel_rfl) (by kernel_rfl) ?_;intro K hK
  repeat' (first | refine sq ?_ | refine stp ?_ | refine blk_o (by decide) ?_ | (apply cb;(focus (simp (disch:=(first | omega | (simp;omega))) only [go_sem,w64];try exact rfl));refine cok ?_) | (refine rgT ?_;intro K hK) | (refine dA ?_;intro K hK) | (with_reducible refine hK _ ?_;clear hK K) | (refine stq ?_;simp (disch:=(first | omega | (simp;omega))) only [go_sem,w64]) | refine as1 ?_ | fail)
  (refine endA (r:=.tup [.d (ratsD F.pt),.d (.agg [.int F.val.num,.int F.val.den]),.d (.bool F.found)]) ?_)
  exact ⟨rfl,rfl⟩
end
end Go.Proofs.YteiaofkgbdlpoaaDoor
namespace Go.Proofs.YteiaofkgbdlpoaaDoor
set_option linter.unusedSimpArgs false
set_option linter.unusedVariables false
open Go.RowKit
theorem cmpR_zero:∀ {a b:List Int},cmpR a b=0↔a=b
 | [],[]=>by simp [cmpR]
 | [],_ :: _=>by simp [cmpR]
 | _ :: _,[]=>by simp [cmpR]
 | x :: a,y :: b=>by
  simp only [cmpR]
  split
  ·rename_i e;rw [cmpR_zero,e];simp
  ·rename_i e
   unfold cmpI
   constructor
   ·intro h
    split at h
    ·omega
    ·split at h <;> omega
   ·intro h
    exact absurd (List.cons.inj h).1 e
theorem cmpR_self (a:List Int):cmpR a a=0:=cmpR_zero.2 rfl
theorem cmpR_tr:∀ {a b c:List Int},a.length=b.length→b.length=c.length→cmpR a b≤0→cmpR b c≤0→cmpR a c≤0∧(cmpR a b<0∨cmpR b c<0→cmpR a c<0)
 | [],[],[],_,_,_,_=>by simp [cmpR]
 | x :: a,y :: b,z :: c,h1,h2,h3,h4=>by
  simp only [List.length_cons,Nat.add_right_cancel_iff] at h1 h2
  simp only [cmpR,cmpI] at h3 h4 ⊢
  by_cases e1:x=y
  ·subst e1
   rw [if_pos rfl] at h3 ⊢
   by_cases e2:x=z
   ·subst e2
    rw [if_pos rfl] at h4 ⊢
    rw [if_pos rfl]
    exact cmpR_tr h1 h2 h3 h4
   ·rw [if_neg e2] at h4 ⊢
    rw [if_neg e2]
    split at h4
    ·rename_i hlt;rw [if_pos hlt];omega
    ·split at h4 <;> omega
  ·rw [if_neg e1] at h3 ⊢
   have hxy:x<y:=by
    split at h3
    ·assumption
    ·split at h3 <;> omega
   by_cases e2:y=z
   ·subst e2
    rw [if_neg e1,if_pos hxy]
    omega
   ·rw [if_neg e2] at h4
    have hyz:y<z:=by
     split at h4
     ·assumption
     ·split at h4 <;> omega
    rw [if_neg (by omega),if_pos (show x<z by omega)]
    omega
theorem cmpI_anti (x y:Int):cmpI y x = - cmpI x y:=by
 unfold cmpI
 split <;> split <;> first | omega | (split <;> omega) | skip
theorem cmpR_anti:∀ a b:List Int,cmpR b a = - cmpR a b
 | [],[]=>by simp [cmpR]
 | [],_ :: _=>by simp [cmpR]
 | _ :: _,[]=>by simp [cmpR]
 | x :: a,y :: b=>by
  simp only [cmpR]
  by_cases e:x=y
  ·rw [if_pos e,if_pos e.symm];exact cmpR_anti a b
  ·rw [if_neg e,if_neg (fun h=>e h.symm)];exact cmpI_anti x y
def Asc (rows:List (List Int)):Prop:=rows.Pairwise (fun a b=>cmpR a b<0)
def SameL (n:Nat) (rows:List (List Int)):Prop:=∀ x∈rows,x.length=n
theorem cmpR_lt_tr {a b c:List Int} {n:Nat} (ha:a.length=n) (hb:b.length=n) (hc:c.length=n) (h1:cmpR a b<0) (h2:cmpR b c≤0):cmpR a c<0:=(cmpR_tr (by omega) (by omega) (by omega) h2).2 (.inl h1)
theorem cmpR_lt_tr2 {a b c:List Int} {n:Nat} (ha:a.length=n) (hb:b.length=n) (hc:c.length=n) (h1:cmpR a b≤0) (h2:cmpR b c<0):cmpR a c<0:=(cmpR_tr (by omega) (by omega) h1 (by omega)).2 (.inr h2)
def insR (x:List Int):List (List Int)→List (List Int)
 | []=>[x]
 | y :: l=>if cmpR x y<0 then x :: y :: l else if cmpR x y=0 then y :: l else y :: insR x l
def srt:List (List Int)→List (List Int)
 | []=>[]
 | x :: l=>insR x (srt l)
theorem mem_insR {x z:List Int}:∀ {l:List (List Int)},z∈insR x l↔z=x∨z∈l
 | []=>by simp [insR]
 | y :: l=>by
  simp only [insR]
  split
  ·simp
  ·split
   ·rename_i h
    have:=cmpR_zero.1 h
    subst this
    simp
   ·rw [List.mem_cons,mem_insR,List.mem_cons]
    constructor
    ·rintro (h | h | h)
     ·exact .inr (.inl h)
     ·exact .inl h
     ·exact .inr (.inr h)
    ·rintro (h | h | h)
     ·exact .inr (.inl h)
     ·exact .inl h
     ·exact .inr (.inr h)
theorem mem_srt {z:List Int}:∀ {l:List (List Int)},z∈srt l↔z∈l
 | []=>by simp [srt]
 | x :: l=>by simp only [srt];rw [mem_insR,mem_srt,List.mem_cons]
theorem SameL.srt {n:Nat} {l:List (List Int)} (h:SameL n l):SameL n (srt l):=fun x hx=>h x (mem_srt.1 hx)
theorem asc_insR {n:Nat} {x:List Int} (hx:x.length=n):∀ {l:List (List Int)},SameL n l→Asc l→Asc (insR x l)
 | [],_,_=>by simp [insR,Asc]
 | y :: l,hl,h=>by
  have h1:=List.pairwise_cons.1 h
  have hy:=hl y (List.mem_cons_self ..)
  simp only [insR]
  split
  ·rename_i hlt
   refine List.pairwise_cons.2 ⟨fun z hz=>?_,h⟩
   rcases List.mem_cons.1 hz with rfl | hz'
   ·exact hlt
   ·exact cmpR_lt_tr hx hy (hl z hz) hlt (by have:=h1.1 z hz';omega)
  ·split
   ·exact h
   ·rename_i h2 h3
    refine List.pairwise_cons.2 ⟨fun z hz=>?_,asc_insR hx (fun z hz=>hl z (List.mem_cons_of_mem _ hz)) h1.2⟩
    rcases mem_insR.1 hz with rfl | hz'
    ·have:=cmpR_anti z y;omega
    ·exact h1.1 z hz'
theorem asc_srt {n:Nat}:∀ {l:List (List Int)},SameL n l→Asc (srt l)
 | [],_=>by simp [srt,Asc]
 | x :: l,h=>asc_insR (h x (List.mem_cons_self ..)) (SameL.srt fun z hz=>h z (List.mem_cons_of_mem _ hz)) (asc_srt fun z hz=>h z (List.mem_cons_of_mem _ hz))
theorem asc_uniq:∀ {a b:List (List Int)},Asc a→Asc b→(∀ x,x∈a↔x∈b)→a=b
 | [],[],_,_,_=>rfl
 | [],y :: b,_,_,h=>by have:=(h y).2 (List.mem_cons_self ..);simp at this
 | x :: a,[],_,_,h=>by have:=(h x).1 (List.mem_cons_self ..);simp at this
 | x :: a,y :: b,ha,hb,h=>by
  have h1:=List.pairwise_cons.1 ha
  have h2:=List.pairwise_cons.1 hb
  have e:x=y:=by
   rcases List.mem_cons.1 ((h x).1 (List.mem_cons_self ..)) with e | e
   ·exact e
   ·rcases List.mem_cons.1 ((h y).2 (List.mem_cons_self ..)) with e' | e'
    ·exact e'.symm
    ·have g1:=h1.1 y e';have g2:=h2.1 x e;have:=cmpR_anti x y;omega
  subst e
  have hna:x ∉ a:=fun hx=>by have:=h1.1 x hx;rw [cmpR_self] at this;omega
  have hnb:x ∉ b:=fun hx=>by have:=h2.1 x hx;rw [cmpR_self] at this;omega
  rw [asc_uniq h1.2 h2.2 fun z=>?_]
  constructor
  ·intro hz
   rcases List.mem_cons.1 ((h z).1 (List.mem_cons_of_mem _ hz)) with rfl | h'
   ·exact absurd hz hna
   ·exact h'
  ·intro hz
   rcases List.mem_cons.1 ((h z).2 (List.mem_cons_of_mem _ hz)) with rfl | h'
   ·exact absurd hz hnb
   ·exact h'
theorem srt_eq {n:Nat} {l out:List (List Int)} (hl:SameL n l) (h1:Asc out) (h2:∀ x,x∈out↔x∈l):srt l=out:=asc_uniq (asc_srt hl) h1 fun x=>by rw [mem_srt,h2]
theorem insR_len (x:List Int):∀ l:List (List Int),(insR x l).length≤l.length+1
 | []=>by simp [insR]
 | y :: l=>by
  simp only [insR]
  split
  ·simp
  ·split
   ·simp
   ·have:=insR_len x l;simp only [List.length_cons];omega
theorem srt_len:∀ l:List (List Int),(srt l).length≤l.length
 | []=>by simp [srt]
 | x :: l=>by have:=insR_len x (srt l);have:=srt_len l;simp only [srt,List.length_cons];omega
theorem asc_snoc {out:List (List Int)} {x:List Int} (h:Asc out) (hx:∀ y∈out,cmpR y x<0):Asc (out ++ [x]):=by
 unfold Asc
 rw [List.pairwise_append]
 exact ⟨h,by simp,fun y hy z hz=>by rw [List.mem_singleton.1 hz];exact hx y hy⟩
structure Mrg (q:Nat) (l a b out:List (List Int)):Prop where
 aa:Asc a
 ab:Asc b
 ao:Asc out
 lt:∀ x∈out,∀ y,y∈a∨y∈b→cmpR x y<0
 mem:∀ x,(x∈out∨x∈a∨x∈b)↔x∈l
 same:SameL q l
 len:out.length+a.length+b.length≤l.length
theorem Mrg.start {q:Nat} {l:List (List Int)} (h:SameL q l) (m:Nat):Mrg q l (srt (l.take m)) (srt (l.drop m)) []:=by
 have h1:SameL q (l.take m):=fun x hx=>h x (List.mem_of_mem_take hx)
 have h2:SameL q (l.drop m):=fun x hx=>h x (List.mem_of_mem_drop hx)
 refine ⟨asc_srt h1,asc_srt h2,by simp [Asc],by simp,fun x=>?_,h,?_⟩
 ·rw [mem_srt,mem_srt]
  have e:x∈l↔x∈l.take m∨x∈l.drop m:=by rw [← List.mem_append,List.take_append_drop]
  rw [e];simp
 ·have g1:=srt_len (l.take m);have g2:=srt_len (l.drop m)
  simp only [List.length_take,List.length_drop] at g1 g2
  simp only [List.length_nil];omega
theorem Mrg.fin {q:Nat} {l out:List (List Int)} (h:Mrg q l [] [] out):srt l=out:=srt_eq h.same h.ao fun x=>by rw [← h.mem x];simp
theorem Mrg.sa {q:Nat} {l a b out:List (List Int)} (h:Mrg q l a b out):SameL q a:=fun x hx=>h.same x ((h.mem x).1 (.inr (.inl hx)))
theorem Mrg.sb {q:Nat} {l a b out:List (List Int)} (h:Mrg q l a b out):SameL q b:=fun x hx=>h.same x ((h.mem x).1 (.inr (.inr hx)))
theorem Mrg.swap {q:Nat} {l a b out:List (List Int)} (h:Mrg q l a b out):Mrg q l b a out :=
 ⟨h.ab,h.aa,h.ao,fun x hx y hy=>h.lt x hx y hy.symm,fun x=>by rw [← h.mem x];constructor <;> (rintro (h | h | h) <;> simp [h]),h.same,by have:=h.len;omega⟩
theorem Mrg.left {q:Nat} {l a b out:List (List Int)} {x:List Int} (h:Mrg q l (x :: a) b out) (hx:∀ y,b.head? = some y→cmpR x y<0):Mrg q l a b (out ++ [x]):=by
 have h1:=List.pairwise_cons.1 h.aa
 refine ⟨h1.2,h.ab,asc_snoc h.ao fun y hy=>h.lt y hy x (.inl (List.mem_cons_self ..)),fun z hz y hy=>?_,fun z=>?_,h.same,by have:=h.len;simp at this ⊢;omega⟩
 ·rcases List.mem_append.1 hz with hz | hz
  ·exact h.lt z hz y (hy.imp (fun h=>List.mem_cons_of_mem _ h) id)
  ·rw [List.mem_singleton] at hz
   subst hz
   rcases hy with hy | hy
   ·exact h1.1 y hy
   ·cases b with
    | nil=>cases hy
    | cons w b =>
     have h2:=hx w rfl
     rcases List.mem_cons.1 hy with rfl | hy'
     ·exact h2
     ·exact cmpR_lt_tr (h.sa z (List.mem_cons_self ..)) (h.sb w (List.mem_cons_self ..)) (h.sb y hy) h2 (by have:=(List.pairwise_cons.1 h.ab).1 y hy';omega)
 ·rw [← h.mem z];simp only [List.mem_append,List.mem_cons,List.not_mem_nil,or_false]
  constructor
  ·rintro ((h | h) | h | h)
   ·exact .inl h
   ·exact .inr (.inl (.inl h))
   ·exact .inr (.inl (.inr h))
   ·exact .inr (.inr h)
  ·rintro (h | (h | h) | h)
   ·exact .inl (.inl h)
   ·exact .inl (.inr h)
   ·exact .inr (.inl h)
   ·exact .inr (.inr h)
theorem Mrg.both {q:Nat} {l a b out:List (List Int)} {x:List Int} (h:Mrg q l (x :: a) (x :: b) out):Mrg q l a b (out ++ [x]):=by
 have h1:=List.pairwise_cons.1 h.aa
 have h2:=List.pairwise_cons.1 h.ab
 refine ⟨h1.2,h2.2,asc_snoc h.ao fun y hy=>h.lt y hy x (.inl (List.mem_cons_self ..)),fun z hz y hy=>?_,fun z=>?_,h.same,by have:=h.len;simp at this ⊢;omega⟩
 ·rcases List.mem_append.1 hz with hz | hz
  ·exact h.lt z hz y (hy.imp (fun h=>List.mem_cons_of_mem _ h) (fun h=>List.mem_cons_of_mem _ h))
  ·rw [List.mem_singleton] at hz
   subst hz
   rcases hy with hy | hy
   ·exact h1.1 y hy
   ·exact h2.1 y hy
 ·rw [← h.mem z];simp only [List.mem_append,List.mem_cons,List.not_mem_nil,or_false]
  constructor
  ·rintro ((h | h) | h | h)
   ·exact .inl h
   ·exact .inr (.inl (.inl h))
   ·exact .inr (.inl (.inr h))
   ·exact .inr (.inr (.inr h))
  ·rintro (h | (h | h) | (h | h))
   ·exact .inl (.inl h)
   ·exact .inl (.inr h)
   ·exact .inr (.inl h)
   ·exact .inl (.inr h)
   ·exact .inr (.inr h)
structure Mrg2 (q:Nat) (l a b out:List (List Int)):Prop where
 aa:Asc a
 ab:Asc b
 ao:Asc out
 le:∀ x∈out,∀ y,y∈a∨y∈b→cmpR x y≤0
 mem:∀ x,(x∈out∨x∈a∨x∈b)↔x∈l
 same:SameL q l
 len:out.length+a.length+b.length≤l.length
theorem Mrg2.start {q:Nat} {l:List (List Int)} (h:SameL q l) (m:Nat):Mrg2 q l (srt (l.take m)) (srt (l.drop m)) []:=by
 have:=Mrg.start h m
 exact ⟨this.aa,this.ab,this.ao,by simp,this.mem,this.same,this.len⟩
theorem Mrg2.fin {q:Nat} {l out:List (List Int)} (h:Mrg2 q l [] [] out):srt l=out:=srt_eq h.same h.ao fun x=>by rw [← h.mem x];simp
theorem Mrg2.sa {q:Nat} {l a b out:List (List Int)} (h:Mrg2 q l a b out):SameL q a:=fun x hx=>h.same x ((h.mem x).1 (.inr (.inl hx)))
theorem Mrg2.sb {q:Nat} {l a b out:List (List Int)} (h:Mrg2 q l a b out):SameL q b:=fun x hx=>h.same x ((h.mem x).1 (.inr (.inr hx)))
theorem Mrg2.so {q:Nat} {l a b out:List (List Int)} (h:Mrg2 q l a b out):SameL q out:=fun x hx=>h.same x ((h.mem x).1 (.inl hx))
theorem Mrg2.swap {q:Nat} {l a b out:List (List Int)} (h:Mrg2 q l a b out):Mrg2 q l b a out :=
 ⟨h.ab,h.aa,h.ao,fun x hx y hy=>h.le x hx y hy.symm,fun x=>by rw [← h.mem x];constructor <;> (rintro (h | h | h) <;> simp [h]),h.same,by have:=h.len;omega⟩
theorem Mrg2.skip {q:Nat} {l a b out:List (List Int)} {x:List Int} (h:Mrg2 q l (x :: a) b out) (hx:x∈out):Mrg2 q l a b out:=by
 have h1:=List.pairwise_cons.1 h.aa
 refine ⟨h1.2,h.ab,h.ao,fun z hz y hy=>h.le z hz y (hy.imp (fun h=>List.mem_cons_of_mem _ h) id),fun z=>?_,h.same,by have:=h.len;simp at this ⊢;omega⟩
 rw [← h.mem z];simp only [List.mem_cons]
 constructor
 ·rintro (h | h | h)
  ·exact .inl h
  ·exact .inr (.inl (.inr h))
  ·exact .inr (.inr h)
 ·rintro (h | (h | h) | h)
  ·exact .inl h
  ·subst h;exact .inl hx
  ·exact .inr (.inl h)
  ·exact .inr (.inr h)
theorem Mrg2.left {q:Nat} {l a b out:List (List Int)} {x:List Int} (h:Mrg2 q l (x :: a) b out) (hx:∀ y,b.head? = some y→cmpR x y≤0) (ho:∀ y∈out,cmpR y x<0):Mrg2 q l a b (out ++ [x]):=by
 have h1:=List.pairwise_cons.1 h.aa
 refine ⟨h1.2,h.ab,asc_snoc h.ao ho,fun z hz y hy=>?_,fun z=>?_,h.same,by have:=h.len;simp at this ⊢;omega⟩
 ·rcases List.mem_append.1 hz with hz | hz
  ·exact h.le z hz y (hy.imp (fun h=>List.mem_cons_of_mem _ h) id)
  ·rw [List.mem_singleton] at hz
   subst hz
   rcases hy with hy | hy
   ·have:=h1.1 y hy;omega
   ·cases b with
    | nil=>cases hy
    | cons w b =>
     have h2:=hx w rfl
     rcases List.mem_cons.1 hy with rfl | hy'
     ·exact h2
     ·have:=cmpR_lt_tr2 (h.sa z (List.mem_cons_self ..)) (h.sb w (List.mem_cons_self ..)) (h.sb y hy) h2 ((List.pairwise_cons.1 h.ab).1 y hy')
      omega
 ·rw [← h.mem z];simp only [List.mem_append,List.mem_cons,List.not_mem_nil,or_false]
  constructor
  ·rintro ((h | h) | h | h)
   ·exact .inl h
   ·exact .inr (.inl (.inl h))
   ·exact .inr (.inl (.inr h))
   ·exact .inr (.inr h)
  ·rintro (h | (h | h) | h)
   ·exact .inl (.inl h)
   ·exact .inl (.inr h)
   ·exact .inr (.inl h)
   ·exact .inr (.inr h)
theorem Mrg2.less {q:Nat} {l a b out:List (List Int)} {x z:List Int} (h:Mrg2 q l (x :: a) b (out ++ [z])) (hz:cmpR z x ≠ 0):∀ y∈out ++ [z],cmpR y x<0:=fun y hy=>by
 have hzx:=h.le z (by simp) x (.inl (List.mem_cons_self ..))
 rcases List.mem_append.1 hy with hy' | hy'
 ·have h1:=(List.pairwise_append.1 h.ao).2.2 y hy' z (by simp)
  exact cmpR_lt_tr (h.so y hy) (h.so z (by simp)) (h.sa x (List.mem_cons_self ..)) h1 hzx
 ·rw [List.mem_singleton] at hy'
  subst hy';omega
end Go.Proofs.YteiaofkgbdlpoaaDoor
namespace Go.Proofs.YteiaofkgbdlpoaaDoor
set_option linter.unusedSimpArgs false
set_option linter.unusedVariables false
open Go.RowKit
def intsQ:RowP (List Int):=fun lo hi w a n c xs=>IntsA true lo hi w a n c xs
abbrev RowsS:=SepA intsQ
theorem RowsS.rows {lo hi:Nat} {w:World} {a:Option Addr} {n c:Nat} {xss:List (List Int)} (h:RowsS lo hi w a n c xss):RowsA true lo hi w a n c xss:=SepA.sl (R:=intsR) (fun {lo hi w ra rn rc x} h=>⟨ra,rn,rc,rfl,h⟩) intsOK h
end Go.Proofs.YteiaofkgbdlpoaaDoor
namespace Go.Proofs.YteiaofkgbdlpoaaDoor
set_option linter.unusedSimpArgs false
set_option linter.unusedVariables false
open Go.RowKit
theorem ints_cxc {C:Nat→Nat→Prop} {fz:Bool} {lo hi:Nat} {w:World} {a:Option Addr} {n c:Nat} {xs:List Int} (h:IntsA fz lo hi w a n c xs) (hC:∀ b i,lo≤b→b<hi→w.cell? ⟨b,i,none⟩ ≠ none→C b i):CX C w (intsD xs) [.slice a n c]:=by
 obtain ⟨h1,h2,h3,h4,h5,h6⟩:=h
 refine ⟨a,n,c,xs.map (Value.int .i64),rfl,by simpa using h1,CXk.singles.2 ⟨by simp,fun i x hx=>?_⟩,by simp [h1],h2,h3,h6,fun u hu=>?_,fun hn=>?_⟩
 ·rw [List.getElem?_map] at hx
  cases e:xs[i]? with
  | none=>rw [e] at hx;cases hx
  | some y=>rw [e] at hx;cases hx;exact ⟨.int .i64 y,by simp [e],rfl,h4 y (List.mem_of_getElem? e)⟩
 ·obtain ⟨x,_,rfl⟩:=List.mem_map.1 hu;rfl
 ·obtain ⟨b,off,ha,hl,hb,hc⟩:=h5 hn
  refine ⟨b,off,ha,fun i u hu=>?_⟩
  rw [List.getElem?_map] at hu
  cases e:xs[i]? with
  | none=>rw [e] at hu;cases hu
  | some y =>
   rw [e] at hu
   cases hu
   have hi:i<xs.length:=(List.getElem?_eq_some_iff.1 e).1
   have h8:=(hc i (by omega)).1
   exact ⟨hC _ _ hl hb (by rw [h8];exact fun x=>(by cases x)),by rw [h8,ix_lt hi,(List.getElem?_eq_some_iff.1 e).2]⟩
end Go.Proofs.YteiaofkgbdlpoaaDoor
