/- Lemmas for the proof of FnExactMaximumPacking, part 13 of 15: no condition of their own. -/
import Derived.Test.YteiaofkgbdlpoaaDoorJ12
namespace Go.Proofs.YteiaofkgbdlpoaaDoor
set_option linter.unusedSimpArgs false
set_option linter.unusedVariables false
attribute [local go_sem ↓] reduceIte
attribute [local go_sem] Nat.reduceEqDiff Nat.reduceLT Nat.reduceAdd Nat.reduceLeDiff Nat.reduceMul Nat.reduceBEq Nat.reduceSub reduceCtorEq Int.reduceLE Int.reduceNeg Int.reduceLT
open Go.RowKit
noncomputable def wbs:List Nat→List (List RatD)→List DV
 | b :: bs,x :: xs=>.wb b 2 (x.map ratDV) :: wbs bs xs
 | _,_=>[]
theorem wbs_nil:wbs [] []=[]:=by unfold wbs;rfl
theorem wbs_len:∀ {bs:List Nat} {xs:List (List RatD)},bs.length=xs.length→(wbs bs xs).length=xs.length
 | [],[],_=>by rw [wbs_nil];rfl
 | _ :: _,[],h=>by simp at h
 | [],_ :: _,h=>by simp at h
 | b :: bs,x :: xs,h=>by simp only [wbs,List.length_cons];rw [wbs_len (by simpa using h)]
theorem wbs_app (b:Nat) (x:List RatD):∀ {bs:List Nat} {xs:List (List RatD)},bs.length=xs.length→wbs (bs ++ [b]) (xs ++ [x])=wbs bs xs ++ [.wb b 2 (x.map ratDV)]
 | [],[],_=>by simp [wbs]
 | _ :: _,[],h=>by simp at h
 | [],_ :: _,h=>by simp at h
 | c :: bs,y :: xs,h=>by simp only [wbs,List.cons_append];rw [wbs_app b x (by simpa using h)]
theorem wbs_at:∀ {bs:List Nat} {xs:List (List RatD)} (i:Nat),i<bs.length→bs.length=xs.length→(wbs bs xs)[i]? = some (.wb (bs.getD i 0) 2 ((mx xs i).map ratDV))
 | [],_,i,h,_=>by simp at h
 | _ :: _,[],i,_,h=>by simp at h
 | c :: bs,y :: xs,0,_,_=>by simp [wbs,mx]
 | c :: bs,y :: xs,i+1,h1,h2=>by
  simp only [wbs,List.getElem?_cons_succ]
  rw [wbs_at i (by simpa using h1) (by simpa using h2)]
  simp [mx]
theorem wbs_mem {bs:List Nat} {xs:List (List RatD)} (h:bs.length=xs.length) {b:Nat} (hb:b∈bs):∃ x∈xs,DV.wb b 2 (x.map ratDV)∈wbs bs xs:=by
 obtain ⟨i,hi,rfl⟩:=List.mem_iff_getElem.1 hb
 refine ⟨mx xs i,by rw [mx_lt (by omega)];exact List.getElem_mem _,?_⟩
 have:=wbs_at i hi h
 rw [List.getD_eq_getElem?_getD,List.getElem?_eq_getElem hi] at this
 exact List.mem_of_getElem? this
theorem hasB_buf {s:AS} (q i:Nat) {g T k:Nat} {l:List DV} {cells:List AV} (hq:s.ob q=some cells) (hi:cells[i]? = some (.buf g T k l)) {b k':Nat} {l':List DV} (hm:DV.wb b k' l'∈l) (hne:l' ≠ []):HasB s b:=by
 intro X G a w hr
 obtain ⟨_,_,us,h3,_⟩:=hr.ob q cells hq
 obtain ⟨u,_,hb⟩:=h3.at i _ hi
 obtain ⟨_,_,_,a0,n,c,vs,_,_,h5,_⟩:=hb
 obtain ⟨j,hj,e⟩:=List.mem_iff_getElem.1 hm
 obtain ⟨_,n',_,_,_,e2,_,_,h6⟩:=h5.at j _ (by rw [List.getElem?_eq_getElem hj,e])
 exact (h6 (by rw [← e2];exact List.length_pos_iff.2 hne)).2
theorem hasB_cell {s:AS} (q i:Nat) {cells:List AV} {b k':Nat} {l':List DV} (hq:s.ob q=some cells) (hi:cells[i]? = some (.d (.wb b k' l'))) (hne:l' ≠ []):HasB s b:=by
 intro X G a w hr
 obtain ⟨_,_,us,h3,_⟩:=hr.ob q cells hq
 obtain ⟨u,_,us2,h4,_⟩:=h3.at i _ hi
 obtain ⟨_,n',_,_,_,e2,_,_,h6⟩:=h4
 exact (h6 (by rw [← e2];exact List.length_pos_iff.2 hne)).2
theorem hasB_rows {s:AS} (q i:Nat) {g T:Nat} {bs:List Nat} {xss:List (List RatD)} {cells:List AV} (hq:s.ob q=some cells) (hi:cells[i]? = some (.buf g T 1 (wbs bs xss))) (hl:bs.length=xss.length) (hne:∀ x∈xss,x ≠ []):∀ b∈bs,HasB s b:=fun b hb=>by
 obtain ⟨x,hx,hm⟩:=wbs_mem hl hb
 exact hasB_buf q i hq hi hm (by simpa using hne x hx)
theorem ne_of_len {α:Type} {l:List α} (h:1≤l.length):l ≠ []:=by
 intro e;subst e;simp at h
noncomputable def lpW (bs:List Nat) (bA bB bC:Nat) (A:List (List RatD)) (B C:List RatD):DV:=.agg [.wb bA 1 (wbs bs A),.wb bB 2 (B.map ratDV),.wb bC 2 (C.map ratDV)]
theorem nodup_snoc {bs:List Nat} {b:Nat} (h:bs.Nodup) (hb:b ∉ bs):(bs ++ [b]).Nodup:=by
 rw [List.nodup_append]
 exact ⟨h,by simp,fun x hx y hy=>by simp at hy;subst hy;exact fun e=>hb (e ▸ hx)⟩
set_option maxRecDepth 100000 in
set_option maxHeartbeats 4000000 in
theorem implCoverOfW (nv:Int) (xs:List AtomD) (us vs:List Int) (hx:xs.length≤1000) (hv:vs.length≤1000) (hx1:1≤xs.length) (hv1:1≤vs.length):AFnG 30 [.d (queryD nv xs us),.d (intsD vs)] (fun r os=>(∃ (bs:List Nat) (bA bB bC:Nat),bs.length=vs.length∧(bs ++ [bB] ++ [bC]).Nodup∧r=.d (lpW bs bA bB bC (cvA vs xs) (List.replicate vs.length q1) (List.replicate xs.length q1)))∧os=[]):=by
 refine afn_ofG (rv:=[.cell 4 30]) tyT_ok Tryd.func30 rfl (by decide +kernel) Tryd.ntmps30 rfl (by simp) ?_
 repeat' (first | refine sq ?_ | refine stp ?_ | refine blk_o (by decide) ?_ | (apply cb;(focus (simp (disch:=(first | omega | (simp;omega))) only [go_sem,w64,queryD,intsD];try exact rfl));refine cok ?_) | (refine rgT ?_;intro K hK) | (refine dA ?_;intro K hK) | (with_reducible refine hK _ ?_;clear hK K) | (refine stq ?_;simp (disch:=(first | omega | (simp;omega))) only [go_sem,w64,queryD,intsD]) | refine as1 ?_ | fail)
 refine awp_nilbufO 5 0 37 28 1 (l:=[.nil,.nil,.nil]) (by simp (disch:=(first | omega | (simp;omega))) only [go_sem,w64]) rfl ?_
 refine awp_nilbufO 5 1 43 43 2 (l:=[.buf 37 28 1 [],.nil,.nil]) (by simp (disch:=(first | omega | (simp;omega))) only [go_sem,w64]) rfl ?_
 refine awp_nilbufO 5 2 55 43 2 (l:=[.buf 37 28 1 [],.buf 43 43 2 [],.nil]) (by simp (disch:=(first | omega | (simp;omega))) only [go_sem,w64]) rfl ?_
 have hrl:∀ v,(rowC xs v).length=xs.length:=fun v=>by simp [rowC]
 have hrne:∀ (V:List Int),∀ x∈V.map (rowC xs),x ≠ []:=fun V x hx9=>by
  obtain ⟨v9,_,rfl⟩:=List.mem_map.1 hx9
  exact ne_of_len (by rw [hrl];exact hx1)
 refine awp_loopw (fun mm s=>∃ (i:Nat) (bs:List Nat),mm=vs.length - i∧i≤vs.length∧bs.length=i∧bs.Nodup∧s=mkS [(2,.ptr 2 0),(4,.ptr 4 0),(5,.ptr 5 0),(11,.d (.sl 1 (vs.map .int))),(12,.d (.int (vs.length:Nat))),(13,.d (.int (i:Nat)))] [(2,[.d (.int nv),.d (.sl 2 (xs.map atomDV)),.d (.sl 1 (us.map .int))]),(4,[.nil,.nil,.nil]),(5,[.buf 37 28 1 (wbs bs ((vs.take i).map (rowC xs))),.buf 43 43 2 ((List.replicate i q1).map ratDV),.buf 55 43 2 ([])])]) ?_ ?_
 ·refine ⟨_,_,?_,0,[],rfl,Nat.zero_le _,rfl,List.nodup_nil,rfl⟩
  (refine sle_mk ?_ ?_ <;> simp (disch:=(first | omega | (simp;omega))) only [go_sem,w64,intsD,List.take_zero,List.map_nil,List.replicate_zero,wbs_nil] <;> exact leafs)
 ·rintro mm s ⟨i,bs,rfl,hi,hbl,hnd,rfl⟩
  have hvm:(vs.map DV.int).length=vs.length:=List.length_map ..
  have w4:IntKind.i64.wrap ((i:Int)+1)=((i+1:Nat):Int):=by rw [w64 (by omega)];rfl
  repeat' (first | refine sq ?_ | refine stp ?_ | refine blk_o (by decide) ?_ | (apply cb;(focus (simp (disch:=(first | omega | (simp;omega))) only [go_sem,w64];try exact rfl));refine cok ?_) | (refine rgT ?_;intro K hK) | (refine dA ?_;intro K hK) | (with_reducible refine hK _ ?_;clear hK K) | (refine stq ?_;simp (disch:=(first | omega | (simp;omega))) only [go_sem,w64]) | refine as1 ?_ | fail)
  refine awp_if (p:=(i:Int)<(vs.length:Nat)) (by simp (disch:=(first | omega | (simp;omega))) only [go_sem,w64]) ?_ ?_ <;> intro hc
  ·have hi2:i<vs.length:=by omega
   have g0:(vs.map DV.int).getD i (.bool false)=.int (vs.getD i 0):=by simp [List.getD,hi2]
   have ht:=take_mapI (rowC xs) vs 0 hi2
   generalize vs.getD i 0=v at *
   have hxm:(xs.map atomDV).length=xs.length:=List.length_map ..
   repeat' (first | refine sq ?_ | refine stp ?_ | refine blk_o (by decide) ?_ | (apply cb;(focus (simp (disch:=(first | omega | (simp;omega))) only [go_sem,w64,hvm,g0,hxm];try exact rfl));refine cok ?_) | (refine rgT ?_;intro K hK) | (refine dA ?_;intro K hK) | (with_reducible refine hK _ ?_;clear hK K) | (refine stq ?_;simp (disch:=(first | omega | (simp;omega))) only [go_sem,w64,hvm,g0,hxm]) | refine as1 ?_ | fail)
   refine awp_nilbuf 8 8 43 2 (by simp (disch:=(first | omega | (simp;omega))) only [go_sem,w64]) ?_
   refine awp_loopw (fun mm s=>∃ j:Nat,mm=xs.length - j∧j≤xs.length∧s=mkS [(2,.ptr 2 0),(4,.ptr 4 0),(5,.ptr 5 0),(11,.d (.sl 1 (vs.map .int))),(12,.d (.int (vs.length:Nat))),(13,.d (.int (i:Nat))),(7,.d (.int v)),(8,.buf 8 43 2 (((xs.take j).map fun x=>occQ x v).map ratDV)),(18,.d (.sl 2 (xs.map atomDV))),(19,.d (.int (xs.length:Nat))),(20,.d (.int (j:Nat)))] [(2,[.d (.int nv),.d (.sl 2 (xs.map atomDV)),.d (.sl 1 (us.map .int))]),(4,[.nil,.nil,.nil]),(5,[.buf 37 28 1 (wbs bs ((vs.take i).map (rowC xs))),.buf 43 43 2 ((List.replicate i q1).map ratDV),.buf 55 43 2 ([])])]) ?_ ?_
   ·refine ⟨_,_,?_,0,rfl,Nat.zero_le _,rfl⟩
    (refine sle_mk ?_ ?_ <;> simp (disch:=(first | omega | (simp;omega))) only [go_sem,w64,List.take_zero,List.map_nil] <;> exact leafs)
   ·rintro mm s ⟨j,rfl,hj,rfl⟩
    have w5:IntKind.i64.wrap ((j:Int)+1)=((j+1:Nat):Int):=by rw [w64 (by omega)];rfl
    repeat' (first | refine sq ?_ | refine stp ?_ | refine blk_o (by decide) ?_ | (apply cb;(focus (simp (disch:=(first | omega | (simp;omega))) only [go_sem,w64];try exact rfl));refine cok ?_) | (refine rgT ?_;intro K hK) | (refine dA ?_;intro K hK) | (with_reducible refine hK _ ?_;clear hK K) | (refine stq ?_;simp (disch:=(first | omega | (simp;omega))) only [go_sem,w64]) | refine as1 ?_ | fail)
    refine awp_if (p:=(j:Int)<(xs.length:Nat)) (by simp (disch:=(first | omega | (simp;omega))) only [go_sem,w64]) ?_ ?_ <;> intro hc2
    ·have hj2:j<xs.length:=by omega
     have r0:(xs.map atomDV).getD j (.bool false)=atomDV (ax xs j):=getDA' hj2
     have ht2:=take_mapI (fun x=>occQ x v) xs ⟨⟨#[]⟩,[]⟩ hj2
     have hb:(((xs.take j).map fun x=>occQ x v).map ratDV).length=j:=by rw [List.length_map,List.length_map,List.length_take];omega
     have eax:xs.getD j ⟨⟨#[]⟩,[]⟩=ax xs j:=rfl
     rw [eax] at ht2
     generalize ax xs j=x at *
     have hh:=implHasA x v
     have hbt:=implBitA (occ x.vs v)
     repeat' (first | refine sq ?_ | refine stp ?_ | refine blk_o (by decide) ?_ | (apply cb;(focus (simp (disch:=(first | omega | (simp;omega))) only [go_sem,w64,r0,atomDV,intsD];try exact rfl));refine cok ?_) | (refine rgT ?_;intro K hK) | (refine dA ?_;intro K hK) | (with_reducible refine hK _ ?_;clear hK K) | (refine stq ?_;simp (disch:=(first | omega | (simp;omega))) only [go_sem,w64,r0,atomDV,intsD]) | refine as1 ?_ | fail)
     (first | refine callA (hh) ?_ | refine callD (hh) ?_ | refine callE (hh) ?_ | refine callF (hh) ?_ ?_)
     repeat' (first | refine sq ?_ | refine stp ?_ | refine blk_o (by decide) ?_ | (apply cb;(focus (simp (disch:=(first | omega | (simp;omega))) only [go_sem,w64];try exact rfl));refine cok ?_) | (refine rgT ?_;intro K hK) | (refine dA ?_;intro K hK) | (with_reducible refine hK _ ?_;clear hK K) | (refine stq ?_;simp (disch:=(first | omega | (simp;omega))) only [go_sem,w64]) | refine as1 ?_ | fail)
     (first | refine callA (hbt) ?_ | refine callD (hbt) ?_ | refine callE (hbt) ?_ | refine callF (hbt) ?_ ?_)
     repeat' (first | refine sq ?_ | refine stp ?_ | refine blk_o (by decide) ?_ | (apply cb;(focus (simp (disch:=(first | omega | (simp;omega))) only [go_sem,w64,w5,hb];try exact rfl));refine cok ?_) | (refine rgT ?_;intro K hK) | (refine dA ?_;intro K hK) | (with_reducible refine hK _ ?_;clear hK K) | (refine stq ?_;simp (disch:=(first | omega | (simp;omega))) only [go_sem,w64,w5,hb]) | refine as1 ?_ | fail)
     refine ⟨xs.length - (j+1),_,by omega,?_,j+1,rfl,by omega,rfl⟩
     rw [ht2,List.map_append]
     (refine sle_mk ?_ ?_ <;> simp (disch:=(first | omega | (simp;omega))) only [go_sem,w64,List.map_cons,List.map_nil,occQ,ratDV] <;> exact leafs)
    ·obtain rfl:j=xs.length:=by omega
     have e1:(xs.take xs.length).map (fun x=>occQ x v)=rowC xs v:=by rw [List.take_length];rfl
     rw [e1]
     have hl1:((vs.take i).map (rowC xs)).length=i:=by rw [List.length_map,List.length_take];omega
     have hb1:(wbs bs ((vs.take i).map (rowC xs))).length=i:=by rw [wbs_len (by omega),hl1]
     have hb2:((List.replicate i q1).map ratDV).length=i:=by simp
     have hbn:(rowC xs v).map ratDV ≠ []:=ne_of_len (by rw [List.length_map,hrl];exact hx1)
     refine awp_shut 8 8 bs (T:=43) (k:=2) (by decide) (by simp (disch:=(first | omega | (simp;omega))) only [go_sem,w64]) hbn (hasB_rows 5 0 rfl rfl (by omega) (hrne _)) ?_
     intro b hbb
     (refine keepA [2,4,5,11,12,13,7,8] [2,4,5] ?_)
     repeat' (first | refine sq ?_ | refine stp ?_ | refine blk_o (by decide) ?_ | (apply cb;(focus (simp (disch:=(first | omega | (simp;omega))) only [go_sem,w64];try exact rfl));refine cok ?_) | (with_reducible refine hK _ ?_;clear hK K) | (refine stq ?_;simp (disch:=(first | omega | (simp;omega))) only [go_sem,w64]) | refine as1 ?_ | fail)
     refine awp_region' tyT_ok ?_;intro K hK
     repeat' (first | refine sq ?_ | refine stp ?_ | refine blk_o (by decide) ?_ | (apply cb;(focus (simp (disch:=(first | omega | (simp;omega))) only [go_sem,w64,hb1];try exact rfl));refine cok ?_) | (with_reducible refine hK _ ?_;clear hK K) | (refine stq ?_;simp (disch:=(first | omega | (simp;omega))) only [go_sem,w64,hb1]) | refine as1 ?_ | fail)
     refine awp_regionY (o:=?o) tyT_ok 2 ?h1 ?h2 ?h3
     case h1=>rfl
     case h2=>rfl
     intro K K2 hK hK2
     repeat' (first | refine sq ?_ | refine stp ?_ | refine blk_o (by decide) ?_ | (apply cb;(focus (simp (disch:=(first | omega | (simp;omega))) only [go_sem,w64,hb2];try exact rfl));refine cok ?_) | (with_reducible refine hK _ ?_;clear hK K) | (refine stq ?_;simp (disch:=(first | omega | (simp;omega))) only [go_sem,w64,hb2]) | refine as1 ?_ | fail)
     refine lloadG tyT_ok rfl rfl rfl rfl rfl (hK2 _ ?_)
     clear hK2 K2
     repeat' (first | refine sq ?_ | refine stp ?_ | refine blk_o (by decide) ?_ | (apply cb;(focus (simp (disch:=(first | omega | (simp;omega))) only [go_sem,w64,w4,hb2];try exact rfl));refine cok ?_) | (refine rgT ?_;intro K hK) | (refine dA ?_;intro K hK) | (with_reducible refine hK _ ?_;clear hK K) | (refine stq ?_;simp (disch:=(first | omega | (simp;omega))) only [go_sem,w64,w4,hb2]) | refine as1 ?_ | fail)
     refine ⟨vs.length - (i+1),_,by omega,?_,i+1,bs ++ [b],rfl,by omega,by simp [hbl],nodup_snoc hnd hbb,rfl⟩
     rw [ht,rep_succ,List.map_append,wbs_app b (rowC xs v) (by omega)]
     (refine sle_mk ?_ ?_ <;> simp (disch:=(first | omega | (simp;omega))) only [go_sem,w64,List.map_cons,List.map_nil,ratDV,q1] <;> exact leafs)
  ·obtain rfl:i=vs.length:=by omega
   rw [List.take_length]
   have hxm:(xs.map atomDV).length=xs.length:=List.length_map ..
   repeat' (first | refine sq ?_ | refine stp ?_ | refine blk_o (by decide) ?_ | (apply cb;(focus (simp (disch:=(first | omega | (simp;omega))) only [go_sem,w64,hxm];try exact rfl));refine cok ?_) | (refine rgT ?_;intro K hK) | (refine dA ?_;intro K hK) | (with_reducible refine hK _ ?_;clear hK K) | (refine stq ?_;simp (disch:=(first | omega | (simp;omega))) only [go_sem,w64,hxm]) | refine as1 ?_ | fail)
   refine awp_loopw (fun mm s=>∃ j:Nat,mm=xs.length - j∧j≤xs.length∧s=mkS [(2,.ptr 2 0),(4,.ptr 4 0),(5,.ptr 5 0),(48,.d (.int (xs.length:Nat))),(49,.d (.int (j:Nat)))] [(4,[.nil,.nil,.nil]),(5,[.buf 37 28 1 (wbs bs (cvA vs xs)),.buf 43 43 2 ((List.replicate vs.length q1).map ratDV),.buf 55 43 2 ((List.replicate j q1).map ratDV)])]) ?_ ?_
   ·refine ⟨_,_,?_,0,rfl,Nat.zero_le _,rfl⟩
    (refine sle_mk ?_ ?_ <;> simp (disch:=(first | omega | (simp;omega))) only [go_sem,w64,List.replicate_zero,List.map_nil,cvA] <;> exact leafs)
   ·rintro mm s ⟨j,rfl,hj,rfl⟩
    have w5:IntKind.i64.wrap ((j:Int)+1)=((j+1:Nat):Int):=by rw [w64 (by omega)];rfl
    have hb2:((List.replicate j q1).map ratDV).length=j:=by simp
    repeat' (first | refine sq ?_ | refine stp ?_ | refine blk_o (by decide) ?_ | (apply cb;(focus (simp (disch:=(first | omega | (simp;omega))) only [go_sem,w64];try exact rfl));refine cok ?_) | (refine rgT ?_;intro K hK) | (refine dA ?_;intro K hK) | (with_reducible refine hK _ ?_;clear hK K) | (refine stq ?_;simp (disch:=(first | omega | (simp;omega))) only [go_sem,w64]) | refine as1 ?_ | fail)
    refine awp_if (p:=(j:Int)<(xs.length:Nat)) (by simp (disch:=(first | omega | (simp;omega))) only [go_sem,w64]) ?_ ?_ <;> intro hc2
    ·repeat' (first | refine sq ?_ | refine stp ?_ | refine blk_o (by decide) ?_ | (apply cb;(focus (simp (disch:=(first | omega | (simp;omega))) only [go_sem,w64];try exact rfl));refine cok ?_) | (with_reducible refine hK _ ?_;clear hK K) | (refine stq ?_;simp (disch:=(first | omega | (simp;omega))) only [go_sem,w64]) | refine as1 ?_ | fail)
     refine awp_regionY (o:=?o2) tyT_ok 2 ?h4 ?h5 ?h6
     case h4=>rfl
     case h5=>rfl
     intro K K2 hK hK2
     repeat' (first | refine sq ?_ | refine stp ?_ | refine blk_o (by decide) ?_ | (apply cb;(focus (simp (disch:=(first | omega | (simp;omega))) only [go_sem,w64,hb2];try exact rfl));refine cok ?_) | (with_reducible refine hK _ ?_;clear hK K) | (refine stq ?_;simp (disch:=(first | omega | (simp;omega))) only [go_sem,w64,hb2]) | refine as1 ?_ | fail)
     refine lloadG tyT_ok rfl rfl rfl rfl rfl (hK2 _ ?_)
     clear hK2 K2
     repeat' (first | refine sq ?_ | refine stp ?_ | refine blk_o (by decide) ?_ | (apply cb;(focus (simp (disch:=(first | omega | (simp;omega))) only [go_sem,w64,w5,hb2];try exact rfl));refine cok ?_) | (refine rgT ?_;intro K hK) | (refine dA ?_;intro K hK) | (with_reducible refine hK _ ?_;clear hK K) | (refine stq ?_;simp (disch:=(first | omega | (simp;omega))) only [go_sem,w64,w5,hb2]) | refine as1 ?_ | fail)
     refine ⟨xs.length - (j+1),_,by omega,?_,j+1,rfl,by omega,rfl⟩
     rw [rep_succ,List.map_append]
     (refine sle_mk ?_ ?_ <;> simp (disch:=(first | omega | (simp;omega))) only [go_sem,w64,List.map_cons,List.map_nil,ratDV,q1] <;> exact leafs)
    ·obtain rfl:j=xs.length:=by omega
     have hlA:bs.length=(cvA vs xs).length:=by simp [cvA,hbl]
     have n1:(List.replicate vs.length q1).map ratDV ≠ []:=ne_of_len (by simp;omega)
     have n2:(List.replicate xs.length q1).map ratDV ≠ []:=ne_of_len (by simp;omega)
     have n3:wbs bs (cvA vs xs) ≠ []:=ne_of_len (by rw [wbs_len hlA,← hlA];omega)
     refine awp_shutO 5 1 43 bs rfl rfl n1 (hasB_rows 5 0 rfl rfl hlA (hrne _)) ?_
     intro bB hB
     (refine keepA [4,5] [4,5] ?_)
     refine awp_shutO 5 2 55 (bs ++ [bB]) rfl rfl n2 (fun b hb=>?_) ?_
     ·rcases List.mem_append.1 hb with hb | hb
      ·exact hasB_rows 5 0 rfl rfl hlA (hrne _) b hb
      ·simp at hb;subst hb;exact hasB_cell 5 1 rfl rfl n1
     intro bC hC
     (refine keepA [4,5] [4,5] ?_)
     refine awp_shutO 5 0 37 [] rfl rfl n3 (fun b hb=>(by cases hb)) ?_
     intro bA _
     (refine keepA [4,5] [4,5] ?_)
     repeat' (first | refine sq ?_ | refine stp ?_ | refine blk_o (by decide) ?_ | (apply cb;(focus (simp (disch:=(first | omega | (simp;omega))) only [go_sem,w64];try exact rfl));refine cok ?_) | (refine rgT ?_;intro K hK) | (refine dA ?_;intro K hK) | (with_reducible refine hK _ ?_;clear hK K) | (refine stq ?_;simp (disch:=(first | omega | (simp;omega))) only [go_sem,w64]) | refine as1 ?_ | fail)
     (refine endA (r:=.d (.agg [.wb bA 1 (wbs bs (cvA vs xs)),.wb bB 2 ((List.replicate vs.length q1).map ratDV),.wb bC 2 ((List.replicate xs.length q1).map ratDV)])) ?_)
     exact ⟨⟨bs,bA,bB,bC,hbl,nodup_snoc (nodup_snoc hnd hB) hC,rfl⟩,rfl⟩
theorem cvA_len (vs:List Int) (xs:List AtomD):(cvA vs xs).length=vs.length:=by simp [cvA]
set_option maxRecDepth 100000 in
theorem implCoverW (nv:Int) (xs:List AtomD) (us:List Int) (hn:NmOK xs):AFnG 9 [.d (queryD nv xs us)] (fun r os=>((qOK nv xs us=false∧r=.tup [.d (.agg [.sl 1 [],.sl 2 [],.sl 2 []]),.d (.bool false)])∨(qOK nv xs us=true∧∃ (bs:List Nat) (bA bB bC:Nat),bs.length=nv.toNat∧(bs ++ [bB] ++ [bC]).Nodup∧r=.tup [.d (lpW bs bA bB bC (cvA (idTo nv.toNat) xs) (List.replicate nv.toNat q1) (List.replicate xs.length q1)),.d (.bool true)]))∧os=[]):=by
 refine afn_ofG (rv:=[.cell 2 30,.tmp 3]) tyT_ok Tryd.func9 rfl (by decide +kernel) Tryd.ntmps9 rfl (by simp) ?_
 repeat' (first | refine sq ?_ | refine stp ?_ | refine blk_o (by decide) ?_ | (apply cb;(focus (simp (disch:=(first | omega | (simp;omega))) only [go_sem,w64,queryD,intsD];try exact rfl));refine cok ?_) | (refine rgT ?_;intro K hK) | (refine dA ?_;intro K hK) | (with_reducible refine hK _ ?_;clear hK K) | (refine stq ?_;simp (disch:=(first | omega | (simp;omega))) only [go_sem,w64,queryD,intsD]) | refine as1 ?_ | fail)
 (first | refine callA (implValidQA nv xs us hn) ?_ | refine callD (implValidQA nv xs us hn) ?_ | refine callE (implValidQA nv xs us hn) ?_ | refine callF (implValidQA nv xs us hn) ?_ ?_)
 cases hq:qOK nv xs us with
 | false =>
  repeat' (first | refine sq ?_ | refine stp ?_ | refine blk_o (by decide) ?_ | (apply cb;(focus (simp (disch:=(first | omega | (simp;omega))) only [go_sem,w64,hq];try exact rfl));refine cok ?_) | (refine rgT ?_;intro K hK) | (refine dA ?_;intro K hK) | (with_reducible refine hK _ ?_;clear hK K) | (refine stq ?_;simp (disch:=(first | omega | (simp;omega))) only [go_sem,w64,hq]) | refine as1 ?_ | fail)
  refine endA (r:=.tup [.d (.agg [.sl 1 [],.sl 2 [],.sl 2 []]),.d (.bool false)]) (h:=(by simp (disch:=(first | omega | (simp;omega))) only [go_sem,w64];exact noLp)) ?_
  exact ⟨.inl ⟨hq,rfl⟩,rfl⟩
 | true =>
  obtain ⟨⟨v1,v2⟩,x1,x2⟩:=qOK_sz hq
  have hdl:(idTo nv.toNat).length=nv.toNat:=idTo_len _
  have hdf:=implDefA' nv xs us hn
  have e0:defF nv xs us=idTo nv.toNat:=by unfold defF;rw [if_pos hq]
  rw [e0] at hdf
  have hco:=implCoverOfW nv xs us (idTo nv.toNat) (by omega) (by omega) (by omega) (by omega)
  rw [hdl] at hco
  repeat' (first | refine sq ?_ | refine stp ?_ | refine blk_o (by decide) ?_ | (apply cb;(focus (simp (disch:=(first | omega | (simp;omega))) only [go_sem,w64,hq];try exact rfl));refine cok ?_) | (refine rgT ?_;intro K hK) | (with_reducible refine hK _ ?_;clear hK K) | (refine stq ?_;simp (disch:=(first | omega | (simp;omega))) only [go_sem,w64,hq]) | refine as1 ?_ | fail)
  refine awp_drawY (o:=?o) tyT_ok (by kernel_rfl) 3 ?h1 ?h2 ?h3 ?h4 ?h5 ?h6
  case h1=>rfl
  case h2=>rfl
  case h3=>kernel_rfl
  case h4=>kernel_rfl
  case h5=>kernel_rfl
  intro K K2 hK hK2
  repeat' (first | refine sq ?_ | refine stp ?_ | refine blk_o (by decide) ?_ | (apply cb;(focus (simp (disch:=(first | omega | (simp;omega))) only [go_sem,w64];try exact rfl));refine cok ?_) | (with_reducible refine hK _ ?_;clear hK K) | (refine stq ?_;simp (disch:=(first | omega | (simp;omega))) only [go_sem,w64]) | refine as1 ?_ | fail)
  (first | refine callA (hdf) ?_ | refine callD (hdf) ?_ | refine callE (hdf) ?_ | refine callF (hdf) ?_ ?_)
  repeat' (first | refine sq ?_ | refine stp ?_ | refine blk_o (by decide) ?_ | (apply cb;(focus (simp (disch:=(first | omega | (simp;omega))) only [go_sem,w64];try exact rfl));refine cok ?_) | (with_reducible refine hK _ ?_;clear hK K) | (refine stq ?_;simp (disch:=(first | omega | (simp;omega))) only [go_sem,w64]) | refine as1 ?_ | fail)
  refine lcallG 11 rfl rfl rfl (by decide) hco (by (repeat (first | exact ASubs.nil | refine ASubs.cons (by first | exact ASub.d _ | exact ASub.dd (dle_wh _ _) | exact ASub.dd (dle_rowsV _) | exact ASub.dd (dle_rowsW _) | exact ASub.dd (dle_relW _ _) | exact ASub.bufd _ _ (dle_rowsV _) | exact ASub.nil _ | exact ASub.nn | exact ASub.buf _ _ _ _ | exact ASub.loc _ | exact ASub.ptr _ _ _ rfl | exact ASub.arr _ _ _ _ rfl | exact ASub.any _ | exact ASub.std rfl (dle_refl _)) ?_));done) ?_
  rintro r os ⟨⟨bs,bA,bB,bC,b1,b2,rfl⟩,rfl⟩
  refine ⟨by simp,hK2 _ ?_⟩
  clear hK2 K2
  repeat' (first | refine sq ?_ | refine stp ?_ | refine blk_o (by decide) ?_ | (apply cb;(focus (simp (disch:=(first | omega | (simp;omega))) only [go_sem,w64,lpW];try exact rfl));refine cok ?_) | (refine rgT ?_;intro K hK) | (refine dA ?_;intro K hK) | (with_reducible refine hK _ ?_;clear hK K) | (refine stq ?_;simp (disch:=(first | omega | (simp;omega))) only [go_sem,w64,lpW]) | refine as1 ?_ | fail)
  (refine endA (r:=.tup [.d (.agg [.wb bA 1 (wbs bs (cvA (idTo nv.toNat) xs)),.wb bB 2 ((List.replicate nv.toNat q1).map ratDV),.wb bC 2 ((List.replicate xs.length q1).map ratDV)]),.d (.bool true)]) ?_)
  exact ⟨.inr ⟨hq,bs,bA,bB,bC,b1,b2,rfl⟩,rfl⟩
end Go.Proofs.YteiaofkgbdlpoaaDoor
namespace Go.Proofs.YteiaofkgbdlpoaaDoor
set_option linter.unusedSimpArgs false
set_option linter.unusedVariables false
open Go.RowKit
def MatX (s t:Nat→Nat) (lo hi:Nat) (w:World) (a:Option Addr) (n c:Nat) (xss:List (List RatD)):Prop :=
 xss.length=n∧n≤c∧c≤maxLen∧(a=none→c=0)∧(∀ i,i<n→lo≤s i∧t i≤hi)∧(∀ i j,i<n→j<n→i ≠ j→t i≤s j∨t j≤s i)∧(0<n→∃ b off,a=some ⟨b,off,none⟩∧lo≤b∧b<hi∧∀ i,i<n→∃ ra rn rc,w.cell? ⟨b,off+i,none⟩=some (.slice ra rn rc)∧w.frozen? ⟨b,off+i,none⟩=false∧RatsA true (s i) (t i) w ra rn rc (mx xss i))
section
variable {s t:Nat→Nat} {lo hi lo':Nat} {w w':World} {a:Option Addr} {n c:Nat} {xss:List (List RatD)}
theorem MatX.len (h:MatX s t lo hi w a n c xss):xss.length=n:=h.1
theorem MatX.small (h:MatX s t lo hi w a n c xss):n≤9223372036854775807:=by
 have h1:=h.2.1;have h2:=h.2.2.1;unfold maxLen at h2;omega
theorem MatX.addr (h:MatX s t lo hi w a n c xss) (hn:0<n):∃ b off,a=some ⟨b,off,none⟩:=by
 obtain ⟨b,off,ha,_⟩:=h.2.2.2.2.2.2 hn
 exact ⟨b,off,ha⟩
theorem MatX.mat (h:MatX s t lo hi w a n c xss):MatA true lo hi w a n c xss:=by
 obtain ⟨h1,h2,h3,h4,h5,h6,h7⟩:=h
 refine ⟨h1,h2,h3,fun hn=>?_,h4⟩
 obtain ⟨b,off,ha,hl,hb,hc⟩:=h7 hn
 refine ⟨b,off,ha,hl,hb,fun i hi=>?_⟩
 obtain ⟨ra,rn,rc,g1,g2,g3⟩:=hc i hi
 rw [mx_lt (by omega)] at g3
 refine ⟨[.slice ra rn rc],xss[i],rfl,List.getElem?_eq_getElem (by omega),⟨ra,rn,rc,rfl,hgRats (wdRats g3 (h5 i hi).1) (h5 i hi).2⟩,fun j hj=>?_⟩
 obtain rfl:j=0:=by omega
 exact ⟨by simpa using g1,fun _=>by simpa using g2⟩
theorem MatX.keep (h:MatX s t lo hi w a n c xss) (hk:Keeps lo hi w w'):MatX s t lo hi w' a n c xss:=by
 obtain ⟨h1,h2,h3,h4,h5,h6,h7⟩:=h
 refine ⟨h1,h2,h3,h4,h5,h6,fun hn=>?_⟩
 obtain ⟨b,off,ha,hl,hb,hc⟩:=h7 hn
 refine ⟨b,off,ha,hl,hb,fun i hi=>?_⟩
 obtain ⟨ra,rn,rc,g1,g2,g3⟩:=hc i hi
 refine ⟨ra,rn,rc,?_,?_,kpRats g3 (hk.mono (h5 i hi).1 (h5 i hi).2)⟩
 ·rw [World.cell?_of_block (w:=w) (hk b hl hb)];exact g1
 ·rw [World.frozen?_of_block (w:=w) (hk b hl hb)];exact g2
theorem MatX.wide (h:MatX s t lo hi w a n c xss) (hl:lo'≤lo):MatX s t lo' hi w a n c xss:=by
 obtain ⟨h1,h2,h3,h4,h5,h6,h7⟩:=h
 refine ⟨h1,h2,h3,h4,fun i hi=>⟨Nat.le_trans hl (h5 i hi).1,(h5 i hi).2⟩,h6,fun hn=>?_⟩
 obtain ⟨b,off,ha,g1,g2⟩:=h7 hn
 exact ⟨b,off,ha,Nat.le_trans hl g1,g2⟩
theorem slice_marked {lo hi:Nat} {w w':World} {p:Addr} {ra:Option Addr} {rn rc:Nat} (hm:Marked lo hi w w') (h:w.cell? p=some (.slice ra rn rc)):w'.cell? p=some (.slice ra rn rc):=by
 obtain ⟨v',q1,q2⟩:=hm.cell _ _ h
 rcases q2 with rfl | ⟨_,_,h,_⟩
 ·exact q1
 ·cases h
theorem MatX.marked {s1 t1:Nat} (h:MatX s t lo hi w a n c xss) (hm:Marked s1 t1 w w') (hd:∀ i,i<n→t i≤s1∨t1≤s i):MatX s t lo hi w' a n c xss:=by
 obtain ⟨h1,h2,h3,h4,h5,h6,h7⟩:=h
 refine ⟨h1,h2,h3,h4,h5,h6,fun hn=>?_⟩
 obtain ⟨b,off,ha,hl,hb,hc⟩:=h7 hn
 refine ⟨b,off,ha,hl,hb,fun i hi=>?_⟩
 obtain ⟨ra,rn,rc,g1,g2,g3⟩:=hc i hi
 exact ⟨ra,rn,rc,slice_marked hm g1,by rw [hm.frz];exact g2,kpRats g3 (hm.keeps (hd i hi))⟩
theorem MatX.put {b off i:Nat} {ra:Option Addr} {rn rc:Nat} {y:List RatD} (h:MatX s t lo hi w (some ⟨b,off,none⟩) n c xss) (hi':i<n) (hcell:w.cell? ⟨b,off+i,none⟩=some (.slice ra rn rc)) (hm:Marked (s i) (t i) w w') (hy:RatsA true (s i) (t i) w' ra rn rc y) :
 MatX s t lo hi w' (some ⟨b,off,none⟩) n c (xss.set i y):=by
 obtain ⟨h1,h2,h3,h4,h5,h6,h7⟩:=h
 refine ⟨by simpa using h1,h2,h3,h4,h5,h6,fun hn=>?_⟩
 obtain ⟨b',off',ha,hl,hb,hc⟩:=h7 hn
 simp only [Option.some.injEq,Addr.mk.injEq,and_true] at ha
 obtain ⟨rfl,rfl⟩:=ha
 refine ⟨b,off,rfl,hl,hb,fun j hj=>?_⟩
 obtain ⟨ra',rn',rc',g1,g2,g3⟩:=hc j hj
 by_cases e:j=i
 ·subst e
  have g1':=slice_marked hm hcell
  refine ⟨ra,rn,rc,g1',by rw [hm.frz];exact g2,?_⟩
  have:mx (xss.set j y) j=y:=by simp [mx,h1,hj]
  rw [this];exact hy
 ·refine ⟨ra',rn',rc',slice_marked hm g1,by rw [hm.frz];exact g2,?_⟩
  have:mx (xss.set i y) j=mx xss j:=by simp [mx,List.getElem?_set_ne (Ne.symm e)]
  rw [this]
  exact kpRats g3 (hm.keeps (h6 j i hj hi' e))
end
def GivesMarkX (s t:Nat→Nat) (lo hi:Nat) (w:World) (r:Int) (a:Option Addr) (n c:Nat) (yss:List (List RatD)) (e:Ending) (w':World):Prop:=e=.returned (.int .i64 r)∧Marked lo hi w w'∧MatX s t lo hi w' a n c yss∧∀ q,(∀ i,i<n→q<s i∨t i≤q)→w'.heap[q]? = w.heap[q]?
set_option maxHeartbeats 1600000 in
theorem markMatX {s t:Nat→Nat} {lo hi:Nat} (a:Option Addr) (n c:Nat) (xss:List (List RatD)) (k:Int) (w:World) (hI:MatX s t lo hi w a n c xss) (h0:0≤k) (h1:k≤2097152) (hsz:matSz xss≤1048576) :
 Calls Tryd.prog 37 #[.slice a n c,.int .i64 k] w (GivesMarkX s t lo hi w (k+2*mlens xss n) a n c (mkMat k xss)):=by
 have hl:=hI.len
 have hs:=hI.small
 have hsum:mlens xss xss.length≤1048576:=by unfold matSz at hsz;omega
 have HL:=hid hl;clear hl
 have HS:=hid hsum;clear hsum hsz
 have HI:=hid hI;clear hI
 go_enter Tryd.func37,Tryd.ntmps37
 go_wp2
 go_loopw [1,5] (fun q i wr=>∃ (j:Nat) (u:Int),i=.int .i64 j∧q=.int .i64 u∧u=k+2*mlens xss j∧j≤n∧Hid (Marked lo hi w wr∧MatX s t lo hi wr a n c (mixMat k xss j)∧∀ q,(∀ i,i<n→q<s i∨t i≤q)→wr.heap[q]? = w.heap[q]?)) (fun _ i _=>n - (intOf i).toNat)
 case atStart=>exact ⟨0,_,rfl,rfl,by simp [mlens],by omega,hid ⟨Marked.refl _ _ _,by rw [mixMat_zero];exact HI.out,fun _ _=>rfl⟩⟩
 case round =>
  obtain ⟨j,u,rfl,rfl,ht,hj,HM⟩:=hrel
  have hlj:mlens xss j≤1048576:=Nat.le_trans (mlens_mono (by rw [HL.out];exact hj)) HS.out
  have ht1:0≤u:=by omega
  have ht2:u≤4194304:=by omega
  have HT:=hid ht;clear ht hlj
  by_cases hlt:j<n
  ·obtain ⟨b,off,rfl⟩:=HI.out.addr (by omega)
   obtain ⟨b',off',ha',_,_,hrow⟩:=HM.out.2.1.2.2.2.2.2.2 (by omega)
   simp only [Option.some.injEq,Addr.mk.injEq,and_true] at ha'
   obtain ⟨rfl,rfl⟩:=ha'
   obtain ⟨ra,rn,rc,hc,hfz,hr⟩:=hrow j hlt
   have hmm:mx (mixMat k xss j) j=mx xss j:=by
    have:=mixMat_at k xss (j:=j) (by rw [HL.out];exact hlt)
    unfold mx at this ⊢
    rw [List.getD_eq_getElem?_getD,this];rfl
   rw [hmm] at hr
   have e12:=HM.out.2.1.2.2.2.2.1 j hlt
   have hrl:(mx xss j).length=rn:=SlA.len hr
   have hrn2:rn≤1048576:=by have h2:=mlens_mono (xss:=xss) (i:=j+1) (k:=xss.length) (by rw [HL.out];omega);have h3:=HS.out;simp only [mlens] at h2;omega
   have HR:=hid (And.intro hrl (And.intro hr (And.intro hc e12)));clear hrl hr hrow hfz hmm e12
   go_wp2_with fail
   refine (markRats ra rn rc (mx xss j) u wr HR.out.2.1 ht1 ht2 hrn2).mono ?_
   rintro e w1 ⟨rfl,hm1,hi1⟩
   have HM1:=hid (And.intro (HM.out.1.trans (hm1.wide HR.out.2.2.2.1 HR.out.2.2.2.2)) (And.intro (HM.out.2.1.put hlt HR.out.2.2.1 hm1 hi1) (fun q hq=>(hm1.out q (hq j hlt)).trans (HM.out.2.2 q hq))));clear hm1 hi1
   go_wp2
   go_roundw
   case rel=>exact ⟨j+1,_,by go_num,rfl,by have h1:=HT.out;have h2:=HR.out.1;simp only [mlens];omega,by omega,hid ⟨HM1.out.1,by
    have h:=HM1.out.2.1
    have h2:=mixMat_set k xss (j:=j) (by rw [HL.out];exact hlt)
    rw [← HT.out,HR.out.1] at h2
    rw [← h2];exact h,HM1.out.2.2⟩⟩
   case measure=>simp [intOf];omega
  ·go_wp2
   go_ret
   obtain rfl:j=n:=by omega
   exact ⟨ret_int HT.out,HM.out.1,by have h:=HM.out.2.1;rw [← HL.out,mixMat_end] at h;rw [HL.out] at h;exact h,HM.out.2.2⟩
def LPX (lo hi:Nat) (w:World) (a:Option Addr) (n c:Nat) (xs:List (List RatD)) (ba:Option Addr) (bn bc:Nat) (bs:List RatD) (ca:Option Addr) (cn cc:Nat) (cs:List RatD):Prop :=
 ∃ (s t:Nat→Nat) (s1 t1 s2 t2:Nat),MatX s t lo hi w a n c xs∧RatsA true s1 t1 w ba bn bc bs∧RatsA true s2 t2 w ca cn cc cs∧(lo≤s1∧t1≤hi∧lo≤s2∧t2≤hi)∧(∀ i,i<n→(t i≤s1∨t1≤s i)∧(t i≤s2∨t2≤s i))∧(t1≤s2∨t2≤s1)
section
variable {lo hi B lo':Nat} {w w':World} {a:Option Addr} {n c:Nat} {xs:List (List RatD)} {ba:Option Addr} {bn bc:Nat} {bs:List RatD} {ca:Option Addr} {cn cc:Nat} {cs:List RatD}
theorem LPX.lp (h:LPX lo hi w a n c xs ba bn bc bs ca cn cc cs):LPA true lo hi w a n c xs ba bn bc bs ca cn cc cs:=by
 obtain ⟨s,t,s1,t1,s2,t2,h0,h1,h2,h3,_⟩:=h
 exact ⟨h0.mat,hgRats (wdRats h1 h3.1) h3.2.1,hgRats (wdRats h2 h3.2.2.1) h3.2.2.2⟩
theorem kpLPX (h:LPX lo hi w a n c xs ba bn bc bs ca cn cc cs) (hb:Keeps lo hi w w'):LPX lo hi w' a n c xs ba bn bc bs ca cn cc cs:=by
 obtain ⟨s,t,s1,t1,s2,t2,h0,h1,h2,h3,h4⟩:=h
 exact ⟨s,t,s1,t1,s2,t2,h0.keep hb,kpRats h1 (hb.mono (by omega) (by omega)),kpRats h2 (hb.mono (by omega) (by omega)),h3,h4⟩
theorem beLPX (h:LPX lo hi w a n c xs ba bn bc bs ca cn cc cs) (hb:Below B w w') (hh:hi≤B):LPX lo hi w' a n c xs ba bn bc bs ca cn cc cs:=kpLPX h (Keeps.of_below hb hh)
theorem wdLPX (h:LPX lo hi w a n c xs ba bn bc bs ca cn cc cs) (hl:lo'≤lo):LPX lo' hi w a n c xs ba bn bc bs ca cn cc cs:=by
 obtain ⟨s,t,s1,t1,s2,t2,h0,h1,h2,h3,h4⟩:=h
 exact ⟨s,t,s1,t1,s2,t2,h0.wide hl,h1,h2,by omega,h4⟩
end
def mkAX (k:Int) (xs:List (List RatD)):List (List RatD):=mkMat k xs
def mkBX (k:Int) (xs:List (List RatD)) (bs:List RatD):List RatD:=mkRats (k+2*mlens xs xs.length) bs.length
def mkCX (k:Int) (xs:List (List RatD)) (bs cs:List RatD):List RatD:=mkRats (k+2*mlens xs xs.length+2*bs.length) cs.length
def GvMarkLPX (lo hi:Nat) (w:World) (k:Int) (a:Option Addr) (n c:Nat) (xs:List (List RatD)) (ba:Option Addr) (bn bc:Nat) (bs:List RatD) (ca:Option Addr) (cn cc:Nat) (cs:List RatD) (e:Ending) (w':World):Prop :=
 e=.returned (.int .i64 (k+(cntLP xs bs cs:Nat)))∧MarkedG lo hi w w'∧LPA true lo hi w' a n c (mkAX k xs) ba bn bc (mkBX k xs bs) ca cn cc (mkCX k xs bs cs)
set_option maxHeartbeats 1600000 in
theorem resK_LPX {lo hi:Nat} (a:Option Addr) (n c:Nat) (xs:List (List RatD)) (ba:Option Addr) (bn bc:Nat) (bs:List RatD) (ca:Option Addr) (cn cc:Nat) (cs:List RatD) (k:Int) (w:World)
 (hI:LPX lo hi w a n c xs ba bn bc bs ca cn cc cs) (hh:hi≤w.heap.size) (h0:0≤k) (h1:k≤1048576) (hs:szLP xs bs cs≤1048576) :
 Calls Tryd.prog 13 #[lpVal a n c ba bn bc ca cn cc,.int .i64 k] w (GvMarkLPX lo hi w k a n c xs ba bn bc bs ca cn cc cs):=by
 obtain ⟨s,t,s1,t1,s2,t2,p0,p1,p2,hb,hd1,hd2⟩:=hI
 have hl1:=p0.len;have hl2:=p1.len;have hl3:=p2.len
 have hsz:matSz xs≤1048576∧mlens xs n+bn+cn≤1048576:=by unfold szLP at hs;rw [hl2,hl3] at hs;refine ⟨by omega,?_⟩;unfold matSz at hs;rw [hl1] at hs;omega
 have HE:Hid (k+2*(mlens xs n:Int)+2*bn+2*cn=k+(cntLP xs bs cs:Nat)):=hid (by unfold cntLP;rw [hl1,hl2,hl3];omega)
 have HL:=hid (And.intro hl1 (And.intro hl2 hl3))
 have HSZ:=hid hsz.1
 have hsz2:=hsz.2
 clear hsz hs hl1 hl2 hl3
 have HP:=hid (And.intro p0 (And.intro p1 p2));clear p0 p1 p2
 have HD:=hid hd1;clear hd1
 go_enter Tryd.func13,Tryd.ntmps13
 go_wp2_with fail
 refine (markMatX (s:=s) (t:=t) (lo:=lo) (hi:=hi) a n c xs k _ (HP.out.1.keep (Keeps.al (Keeps.refl _ _ _) (by omega) _)) h0 (by omega) HSZ.out).mono ?_
 rintro e w1 ⟨rfl,hm1,r0,hfr⟩
 have hz1:w.heap.size<w1.heap.size:=by rw [hm1.size];simp
 have q1:w1.cell? ⟨w.heap.size,1,none⟩=some (.slice ba bn bc):=by rw [boxG (.of_marked hm1) _ (by simp) (by omega)];simp
 have q2:w1.cell? ⟨w.heap.size,2,none⟩=some (.slice ca cn cc):=by rw [boxG (.of_marked hm1) _ (by simp) (by omega)];simp
 have r1:RatsA true s1 t1 w1 ba bn bc bs:=kpRats (kpRats HP.out.2.1 (Keeps.al (Keeps.refl _ _ _) (by omega) _)) (fun q g1 g2=>hfr q fun i hi=>by have:=(HD.out i hi).1;omega)
 have r2:RatsA true s2 t2 w1 ca cn cc cs:=kpRats (kpRats HP.out.2.2 (Keeps.al (Keeps.refl _ _ _) (by omega) _)) (fun q g1 g2=>hfr q fun i hi=>by have:=(HD.out i hi).2;omega)
 have HM1:=hid ((MarkedG.of_below (lo:=lo) (hi:=hi) (w:=w) belA).trans (.of_marked hm1))
 have HR:=hid (And.intro r0 (And.intro r1 r2));clear hm1 r0 r1 r2 hfr
 go_wp2_with fail
 refine (markRats ba bn bc bs (k+2*(mlens xs n:Int)) _ HR.out.2.1 (by omega) (by omega) (by omega)).mono ?_
 rintro e w2 ⟨rfl,hm2,r1⟩
 have q2':w2.cell? ⟨w.heap.size,2,none⟩=some (.slice ca cn cc):=by rw [boxG (.of_marked hm2) _ hz1 (by omega)];exact q2
 have r0:MatX s t lo hi w2 a n c (mkMat k xs):=HR.out.1.marked hm2 fun i hi=>(HD.out i hi).1
 have r2:RatsA true s2 t2 w2 ca cn cc cs:=kpRats HR.out.2.2 (hm2.keeps (by omega))
 have HM2:=hid (HM1.out.trans (.of_marked (hm2.wide (by omega) (by omega))))
 have HR2:=hid (And.intro r0 (And.intro r1 r2));clear hm2 r0 r1 r2 q1 q2
 go_wp2_with fail
 refine (markRats ca cn cc cs (k+2*(mlens xs n:Int)+2*bn) _ HR2.out.2.2 (by omega) (by omega) (by omega)).mono ?_
 rintro e w3 ⟨rfl,hm3,r2⟩
 have r0:MatX s t lo hi w3 a n c (mkMat k xs):=HR2.out.1.marked hm3 fun i hi=>(HD.out i hi).2
 have r1:=kpRats HR2.out.2.1 (hm3.keeps (by omega))
 have HM3:=hid (HM2.out.trans (.of_marked (hm3.wide (by omega) (by omega))))
 have HR3:=hid (And.intro r0 (And.intro r1 r2));clear hm3 r0 r1 r2
 go_wp2_with fail
 go_ret
 refine ⟨by rw [← HE.out];rfl,HM3.out,HR3.out.1.mat,?_,?_⟩
 ·unfold mkBX;rw [HL.out.1,HL.out.2.1];exact hgRats (wdRats HR3.out.2.1 (by omega)) (by omega)
 ·unfold mkCX;rw [HL.out.1,HL.out.2.1,HL.out.2.2];exact hgRats (wdRats HR3.out.2.2 (by omega)) (by omega)
set_option maxHeartbeats 1600000 in
theorem heldK_LPX {fz:Bool} {lo hi:Nat} (a:Option Addr) (n c:Nat) (xs:List (List RatD)) (ba:Option Addr) (bn bc:Nat) (bs:List RatD) (ca:Option Addr) (cn cc:Nat) (cs:List RatD) (k:Int) (w:World)
 (hI:LPA fz lo hi w a n c (mkAX k xs) ba bn bc (mkBX k xs bs) ca cn cc (mkCX k xs bs cs)) (hh:hi≤w.heap.size) (h0:0≤k) (h1:k≤1048576) (hs:szLP xs bs cs≤1048576) :
 Calls Tryd.prog 14 #[lpVal a n c ba bn bc ca cn cc,.int .i64 k] w (Leaves w (.int .i64 (k+(cntLP xs bs cs:Nat)))):=by
 have hl1:xs.length=n:=by have:=hI.1.len;unfold mkAX at this;rwa [mkMat_len] at this
 have hl2:bs.length=bn:=by have:=hI.2.1.len;unfold mkBX at this;rwa [mkRats_len] at this
 have hl3:cs.length=cn:=by have:=hI.2.2.len;unfold mkCX at this;rwa [mkRats_len] at this
 have hsz:matSz xs≤1048576∧mlens xs n+bn+cn≤1048576:=by unfold szLP at hs;rw [hl2,hl3] at hs;refine ⟨by omega,?_⟩;unfold matSz at hs;rw [hl1] at hs;omega
 have HE:Hid (k+2*(mlens xs n:Int)+2*bn+2*cn=k+(cntLP xs bs cs:Nat)):=hid (by unfold cntLP;rw [hl1,hl2,hl3];omega)
 have r1:RatsA fz lo hi w ba bn bc (mkRats (k+2*(mlens xs n:Int)) bn):=by have:=hI.2.1;unfold mkBX at this;rwa [hl1,hl2] at this
 have r2:RatsA fz lo hi w ca cn cc (mkRats (k+2*(mlens xs n:Int)+2*bn) cn):=by have:=hI.2.2;unfold mkCX at this;rwa [hl1,hl2,hl3] at this
 have HR:=hid (And.intro hI.1 (And.intro r1 r2));clear hI r1 r2
 have HSZ:=hid hsz.1
 have hsz2:=hsz.2
 clear hsz hs hl1 hl2 hl3
 have hn1:¬ k+2*(mlens xs n:Int)<0:=by omega
 have hn2:¬ k+2*(mlens xs n:Int)+2*(bn:Int)<0:=by omega
 have hn3:¬ k+2*(mlens xs n:Int)+2*(bn:Int)+2*(cn:Int)<0:=by omega
 go_enter Tryd.func14,Tryd.ntmps14
 go_wp2_with fail
 refine (heldMat a n c xs k _ (beMat (B:=w.heap.size) HR.out.1 belA hh) h0 (by omega) HSZ.out).mono ?_
 rintro e w1 ⟨rfl,m1,rfl⟩
 go_wp2_with fail
 refine (heldRats ba bn bc (k+2*(mlens xs n:Int)) _ (beRats (B:=w.heap.size) HR.out.2.1 (by repeat (first | with_reducible assumption | with_reducible exact Below.refl _ _ | with_reducible refine below_drewN ?_ _ | with_reducible refine below_drew1 ?_ | with_reducible refine Below.al ?_ (by first | with_reducible exact Nat.le_refl _ | omega | (simp;done) | (simp;omega) | exact Nat.le_refl _) _ | with_reducible refine Below.setCell ?_ (by first | with_reducible exact Nat.le_refl _ | omega | (simp;done) | (simp;omega) | exact Nat.le_refl _) _ | assumption | exact Below.refl _ _ | refine below_drewN ?_ _ | refine below_drew1 ?_ | refine Below.al ?_ (by first | with_reducible exact Nat.le_refl _ | omega | (simp;done) | (simp;omega) | exact Nat.le_refl _) _ | refine Below.setCell ?_ (by first | with_reducible exact Nat.le_refl _ | omega | (simp;done) | (simp;omega) | exact Nat.le_refl _) _)) hh) (by omega) (by omega) (by omega)).mono ?_
 rintro e w2 ⟨rfl,m2,rfl⟩
 go_wp2_with fail
 refine (heldRats ca cn cc (k+2*(mlens xs n:Int)+2*bn) _ (beRats (B:=w.heap.size) HR.out.2.2 (by repeat (first | with_reducible assumption | with_reducible exact Below.refl _ _ | with_reducible refine below_drewN ?_ _ | with_reducible refine below_drew1 ?_ | with_reducible refine Below.al ?_ (by first | with_reducible exact Nat.le_refl _ | omega | (simp;done) | (simp;omega) | exact Nat.le_refl _) _ | with_reducible refine Below.setCell ?_ (by first | with_reducible exact Nat.le_refl _ | omega | (simp;done) | (simp;omega) | exact Nat.le_refl _) _ | assumption | exact Below.refl _ _ | refine below_drewN ?_ _ | refine below_drew1 ?_ | refine Below.al ?_ (by first | with_reducible exact Nat.le_refl _ | omega | (simp;done) | (simp;omega) | exact Nat.le_refl _) _ | refine Below.setCell ?_ (by first | with_reducible exact Nat.le_refl _ | omega | (simp;done) | (simp;omega) | exact Nat.le_refl _) _)) hh) (by omega) (by omega) (by omega)).mono ?_
 rintro e w3 ⟨rfl,m3,rfl⟩
 go_wp2_with fail
 go_ret
 exact ⟨by rw [← HE.out];rfl,(by repeat (first | with_reducible assumption | with_reducible exact Below.refl _ _ | with_reducible refine below_drewN ?_ _ | with_reducible refine below_drew1 ?_ | with_reducible refine Below.al ?_ (by first | with_reducible exact Nat.le_refl _ | omega | (simp;done) | (simp;omega) | exact Nat.le_refl _) _ | with_reducible refine Below.setCell ?_ (by first | with_reducible exact Nat.le_refl _ | omega | (simp;done) | (simp;omega) | exact Nat.le_refl _) _ | assumption | exact Below.refl _ _ | refine below_drewN ?_ _ | refine below_drew1 ?_ | refine Below.al ?_ (by first | with_reducible exact Nat.le_refl _ | omega | (simp;done) | (simp;omega) | exact Nat.le_refl _) _ | refine Below.setCell ?_ (by first | with_reducible exact Nat.le_refl _ | omega | (simp;done) | (simp;omega) | exact Nat.le_refl _) _))⟩
end Go.Proofs.YteiaofkgbdlpoaaDoor
namespace Go.Proofs.YteiaofkgbdlpoaaDoor
set_option linter.unusedSimpArgs false
set_option linter.unusedVariables false
open Go.RowKit
theorem afnG_outE {f:FuncId} {args:List AV} {R:AV→List (List AV)→Prop} (h:AFnG f args R) {w:World} (hg:GlobW w) {C0:Nat→Nat→Prop} (hC0:∀ b i,C0 b i→b<w.heap.size) {vs:List Value} (hv:∀ G:Gh,G.C=C0→CVs G w args vs) :
 Calls Tryd.prog f vs.toArray w (fun e w'=>∃ v r os G',e=.returned v∧R r os∧CV G' w' r v∧Below w.heap.size w w'∧(∀ b i,G'.C b i→b<w'.heap.size)∧(∀ b i,G'.C b i→b<w.heap.size→C0 b i)∧(∀ b i,G'.C b i→w.heap.size≤b→w'.frozen? ⟨b,i,none⟩=false)):=by
 refine (h.2 w ⟨C0,fun _=>.slice none 0 0,fun _=>0,fun _=>0,fun _=>0⟩ vs hg (hv _ rfl) hC0).mono ?_
 rintro e w' ⟨v,r,os,G',rfl,hp⟩
 exact ⟨v,r,os,G',rfl,hp.post,hp.res,⟨hp.fr.os,hp.fr.tape,hp.fr.output,hp.fr.size,fun k hk=>hp.fr.block k hk (fun ⟨i,hi,_⟩=>absurd hi (Nat.not_lt_zero _))⟩,hp.cs,hp.lc,hp.uf⟩
def GvLPO (lo:Nat) (w:World) (xs:List (List RatD)) (bs cs:List RatD) (ok:Bool) (e:Ending) (w':World):Prop :=
 ∃ a n c ba bn bc ca cn cc,e=.returned (.tuple #[lpVal a n c ba bn bc ca cn cc,.bool ok])∧LPA false lo w'.heap.size w' a n c xs ba bn bc bs ca cn cc cs∧Below w.heap.size w w'
def GvLPX (w:World) (xs:List (List RatD)) (bs cs:List RatD) (ok:Bool) (e:Ending) (w':World):Prop :=
 ∃ a n c ba bn bc ca cn cc,e=.returned (.tuple #[lpVal a n c ba bn bc ca cn cc,.bool ok])∧LPX w.heap.size w'.heap.size w' a n c xs ba bn bc bs ca cn cc cs∧Below w.heap.size w w'
theorem cv_lp {G:Gh} {w:World} {x y z:DV} {ok:Bool} {v:Value} (h:CV G w (.tup [.d (.agg [x,y,z]),.d (.bool ok)]) v):∃ u1 u2 u3,v=.tuple #[.agg (u1 ++ (u2 ++ u3)).toArray,.bool ok]∧CX G.C w x u1∧CX G.C w y u2∧CX G.C w z u3:=by
 obtain ⟨vs,rfl,v1,us1,rfl,h1,v2,us2,rfl,h2,rfl⟩:=h
 obtain ⟨us,h3,rfl⟩:=cvAgg.1 h1
 obtain rfl:=cvBool.1 h2
 obtain ⟨u1,r1,rfl,k1,u2,r2,rfl,k2,u3,r3,rfl,k3,rfl⟩:=h3
 exact ⟨u1,u2,u3,by simp,k1,k2,k3⟩
theorem wb_rats {C:Nat→Nat→Prop} {lo b:Nat} {w:World} {xs:List RatD} {u:Value} (hT:∀ b,Tag C b→lo≤b) (hC:∀ b i,C b i→b<w.heap.size) (hf:∀ b i,C b i→lo≤b→w.frozen? ⟨b,i,none⟩=false) (hne:xs ≠ []) (h:CX C w (.wb b 2 (xs.map ratDV)) [u]) :
 ∃ ra rn rc,u=.slice ra rn rc∧lo≤b∧b<w.heap.size∧RatsA true b (b+1) w ra rn rc xs:=by
 obtain ⟨ra,rn,rc,rs,e1,e2,e3,⟨f1,f2,f3,f4,f5,f6⟩,f7⟩:=h
 simp only [List.cons.injEq,and_true] at e1
 subst e1
 obtain ⟨rfl,hI⟩:=cxk_rats e3
 simp only [List.length_map] at e2
 have hr:0<rn:=by rw [← e2];exact List.length_pos_iff.2 hne
 obtain ⟨rb,roff,hra,hrc⟩:=f6 hr
 obtain ⟨hra',hrt⟩:=f7 hr
 rw [hra] at hra'
 simp only [Option.some.injEq,Addr.mk.injEq,and_true] at hra'
 obtain ⟨rfl,rfl⟩:=hra'
 have c0:=hrc _ _ (flatR_at (xs:=xs) (i:=0) (by omega)).1
 have hb1:=hC rb _ c0.1
 have hb2:=hT rb hrt.tag
 exact ⟨ra,rn,rc,rfl,hb2,hb1,ratsMk0 e2 f2 f3 f4 hI (fun _=>⟨rb,0,hra,Nat.le_refl _,by omega,fun i u hu=>⟨(hrc i u hu).2,fun _=>hf rb _ (hrc i u hu).1 hb2⟩⟩)⟩
theorem wb_mat {C:Nat→Nat→Prop} {lo bA:Nat} {w:World} {bs:List Nat} {xss:List (List RatD)} {us:List Value} (hT:∀ b,Tag C b→lo≤b) (hC:∀ b i,C b i→b<w.heap.size) (hf:∀ b i,C b i→lo≤b→w.frozen? ⟨b,i,none⟩=false) (hl:bs.length=xss.length) (hne:∀ x∈xss,x ≠ []) (hnd:bs.Nodup) (h:CX C w (.wb bA 1 (wbs bs xss)) us) :
 ∃ a n c,us=[.slice a n c]∧MatX (fun i=>bs.getD i 0) (fun i=>bs.getD i 0+1) lo w.heap.size w a n c xss:=by
 obtain ⟨a,n,c,vs,rfl,h2,h3,⟨h4,h5,h6,h7,h8,h9⟩,h10⟩:=h
 rw [wbs_len hl] at h2
 obtain ⟨g1,g2⟩:=CXk.singles.1 h3
 rw [wbs_len hl] at g1
 have hrow:∀ i,i<n→∃ ra rn rc,vs[i]? = some (.slice ra rn rc)∧lo≤bs.getD i 0∧bs.getD i 0<w.heap.size∧RatsA true (bs.getD i 0) (bs.getD i 0+1) w ra rn rc (mx xss i):=fun i hi=>by
  obtain ⟨u,hu,hx⟩:=g2 i _ (wbs_at i (by omega) hl)
  obtain ⟨ra,rn,rc,rfl,q1,q2,q3⟩:=wb_rats hT hC hf (hne _ (by rw [mx_lt (by omega)];exact List.getElem_mem _)) hx
  exact ⟨ra,rn,rc,hu,q1,q2,q3⟩
 refine ⟨a,n,c,rfl,h2,h5,h6,h7,fun i hi=>?_,fun i j hi hj hij=>?_,fun hn=>?_⟩
 ·obtain ⟨_,_,_,_,q1,q2,_⟩:=hrow i hi
  exact ⟨q1,q2⟩
 ·have e:bs.getD i 0 ≠ bs.getD j 0:=by
   rw [List.getD_eq_getElem?_getD,List.getD_eq_getElem?_getD,List.getElem?_eq_getElem (by omega:i<bs.length),List.getElem?_eq_getElem (by omega:j<bs.length)]
   have hp:=List.pairwise_iff_getElem.1 hnd
   rcases Nat.lt_or_gt_of_ne hij with h | h
   ·exact hp i j (by omega) (by omega) h
   ·exact fun e=>hp j i (by omega) (by omega) h e.symm
  show bs.getD i 0+1≤bs.getD j 0∨bs.getD j 0+1≤bs.getD i 0
  omega
 ·obtain ⟨b,off,ha,hc⟩:=h9 hn
  obtain ⟨ha',htag⟩:=h10 hn
  rw [ha] at ha'
  simp only [Option.some.injEq,Addr.mk.injEq,and_true] at ha'
  obtain ⟨rfl,rfl⟩:=ha'
  have hlo:=hT b htag.tag
  have hbs:=hC b _ (hc 0 _ (List.getElem?_eq_getElem (by omega:0<vs.length))).1
  refine ⟨b,0,ha,hlo,hbs,fun i hi=>?_⟩
  obtain ⟨ra,rn,rc,q0,_,_,q3⟩:=hrow i hi
  exact ⟨ra,rn,rc,(hc i _ q0).2,hf b _ (hc i _ q0).1 hlo,q3⟩
theorem nodup_parts {bs:List Nat} {b c:Nat} (h:(bs ++ [b] ++ [c]).Nodup):bs.Nodup∧(∀ x∈bs,x ≠ b)∧(∀ x∈bs,x ≠ c)∧b ≠ c:=by
 rw [List.nodup_append] at h
 obtain ⟨h1,_,h2⟩:=h
 rw [List.nodup_append] at h1
 obtain ⟨h3,_,h4⟩:=h1
 exact ⟨h3,fun x hx=>h4 x hx b (by simp),fun x hx=>h2 x (by simp [hx]) c (by simp),h2 b (by simp) c (by simp)⟩
theorem lpX_nil {lo hi:Nat} {w:World} {a ba ca:Option Addr} {n c bn bc cn cc:Nat} (hlh:lo≤hi) (h1:RatsA false lo hi w a n c []) (h2:RatsA false lo hi w ba bn bc []) (h3:RatsA false lo hi w ca cn cc []):LPX lo hi w a n c [] ba bn bc [] ca cn cc []:=by
 have n1:n=0:=h1.len.symm
 have n2:bn=0:=h2.len.symm
 have n3:cn=0:=h3.len.symm
 subst n1 n2 n3
 exact ⟨fun _=>lo,fun _=>lo,lo,lo,lo,lo,⟨rfl,h1.2.1,h1.2.2.1,h1.2.2.2.2,fun i hi=>by omega,fun i j hi=>by omega,fun h=>absurd h (Nat.lt_irrefl 0)⟩,⟨rfl,h2.2.1,h2.2.2.1,fun h=>absurd h (Nat.lt_irrefl 0),h2.2.2.2.2⟩,⟨rfl,h3.2.1,h3.2.2.1,fun h=>absurd h (Nat.lt_irrefl 0),h3.2.2.2.2⟩,by omega,fun i hi=>by omega,by omega⟩
section
variable {fz:Bool} {lo hi:Nat} {w:World} {nv:Int} {a:Option Addr} {n c:Nat} {xs:List AtomD} {ua:Option Addr} {un uc:Nat} {us:List Int}
theorem specCov (h:QueryA fz lo hi w nv a n c xs ua un uc us) (hh:hi≤w.heap.size) (hlw:lo≤w.heap.size):Calls Tryd.prog 7 #[queryV nv a n c ua un uc] w (GvLPO lo w (cpF nv xs us).A (cpF nv xs us).B (cpF nv xs us).C (cpF nv xs us).ok):=by
 refine (afn_calls (specCoverA nv xs us (nm_of h.2.1)) (C0:=cellsC lo w) (fun b i h=>h.2.1) (vs:=[queryV nv a n c ua un uc]) (fun G hG=>⟨_,_,rfl,query_cvs h hh (Nat.le_refl _) G hG,rfl⟩)).mono ?_
 rintro e w' ⟨v,G',rfl,h1,hb,hcs,hlc,huf⟩
 have hC:∀ b i,G'.C b i→lo≤b∧b<w'.heap.size:=fun b i hc=>by
  refine ⟨?_,hcs b i hc⟩
  by_cases h:b<w.heap.size
  ·exact (hlc b i hc h).1
  ·omega
 obtain ⟨u1,u2,u3,rfl,k1,k2,k3⟩:=cv_lp h1
 obtain ⟨a',n',c',rfl,p1⟩:=cx_matC hC k1
 obtain ⟨ba,bn,bc,rfl,p2⟩:=cx_ratsC hC k2
 obtain ⟨ca,cn,cc,rfl,p3⟩:=cx_ratsC hC k3
 exact ⟨a',n',c',ba,bn,bc,ca,cn,cc,rfl,⟨p1,p2,p3⟩,hb⟩
theorem implCov (hg:GlobW w) (h:QueryA fz lo hi w nv a n c xs ua un uc us) (hh:hi≤w.heap.size):Calls Tryd.prog 9 #[queryV nv a n c ua un uc] w (GvLPX w (cpF nv xs us).A (cpF nv xs us).B (cpF nv xs us).C (cpF nv xs us).ok):=by
 refine (afnG_outE (implCoverW nv xs us (nm_of h.2.1)) hg (C0:=cellsC 0 w) (fun b i h=>h.2.1) (vs:=[queryV nv a n c ua un uc]) (fun G hG=>⟨_,_,rfl,query_cvs h hh (Nat.zero_le _) G hG,rfl⟩)).mono ?_
 rintro e w' ⟨v,r,os,G',rfl,⟨hr,rfl⟩,h1,hb,hcs,hlc,huf⟩
 have hT:∀ b,Tag G'.C b→w.heap.size≤b:=fun b ⟨N,ht⟩=>by
  by_cases h:b<w.heap.size
  ·exact absurd ⟨N,fun i hi=>hlc b i (ht i hi) h⟩ (no_tag (lo:=0) (w:=w) (b:=b))
  ·omega
 rcases hr with ⟨hq,rfl⟩ | ⟨hq,bs,bA,bB,bC,b1,b2,rfl⟩
 ·have ec:cpF nv xs us=⟨[],[],[],false⟩:=by unfold cpF;rw [if_neg (by rw [hq];simp)]
  rw [ec]
  obtain ⟨u1,u2,u3,rfl,k1,k2,k3⟩:=cv_lp h1
  have hn:∀ {k:Nat} {u:List Value},CX G'.C w' (.sl k []) u→∃ a n c,u=[.slice a n c]∧RatsA false w.heap.size w'.heap.size w' a n c []:=fun {k u} hx=>by
   obtain ⟨a,n,c,vs,rfl,e2,_,e4⟩:=hx
   have n0:n=0:=e2.symm
   subst n0
   exact ⟨a,0,c,rfl,rfl,e4.2.1,e4.2.2.1,fun h=>absurd h (Nat.lt_irrefl 0),e4.2.2.2.1⟩
  obtain ⟨a',n',c',rfl,p1⟩:=hn k1
  obtain ⟨ba,bn,bc,rfl,p2⟩:=hn k2
  obtain ⟨ca,cn,cc,rfl,p3⟩:=hn k3
  exact ⟨a',n',c',ba,bn,bc,ca,cn,cc,rfl,lpX_nil hb.size p1 p2 p3,hb⟩
 ·have ec:cpF nv xs us=⟨cvA (idTo nv.toNat) xs,List.replicate nv.toNat q1,List.replicate xs.length q1,true⟩:=by unfold cpF;rw [if_pos hq]
  rw [ec]
  obtain ⟨⟨v1,v2⟩,x1,x2⟩:=qOK_sz hq
  obtain ⟨u1,u2,u3,rfl,k1,k2,k3⟩:=cv_lp h1
  obtain ⟨d1,d2,d3,d4⟩:=nodup_parts b2
  have hl:bs.length=(cvA (idTo nv.toNat) xs).length:=by rw [cvA_len,idTo_len];exact b1
  have hne:∀ x∈cvA (idTo nv.toNat) xs,x ≠ []:=fun x hx=>by
   obtain ⟨v9,_,rfl⟩:=List.mem_map.1 hx
   exact ne_of_len (by simp [rowC];omega)
  obtain ⟨a',n',c',rfl,p1⟩:=wb_mat hT hcs huf hl hne d1 k1
  obtain ⟨u2,rfl⟩:∃ u,u2=[u]:=List.length_eq_one_iff.1 (by obtain ⟨_,_,_,_,rfl,_⟩:=k2;rfl)
  obtain ⟨u3,rfl⟩:∃ u,u3=[u]:=List.length_eq_one_iff.1 (by obtain ⟨_,_,_,_,rfl,_⟩:=k3;rfl)
  obtain ⟨ba,bn,bc,rfl,g1,g2,p2⟩:=wb_rats hT hcs huf (ne_of_len (by simp;omega)) k2
  obtain ⟨ca,cn,cc,rfl,g3,g4,p3⟩:=wb_rats hT hcs huf (ne_of_len (by simp;omega)) k3
  have hn':=p1.len
  refine ⟨a',n',c',ba,bn,bc,ca,cn,cc,rfl,⟨_,_,bB,bB+1,bC,bC+1,p1,p2,p3,⟨g1,g2,g3,g4⟩,fun i hi=>?_,by omega⟩,hb⟩
  have hm:bs.getD i 0∈bs:=by
   rw [List.getD_eq_getElem?_getD,List.getElem?_eq_getElem (by omega:i<bs.length)]
   exact List.getElem_mem _
  have e1:=d2 _ hm
  have e2:=d3 _ hm
  show (bs.getD i 0+1≤bB∨bB+1≤bs.getD i 0)∧(bs.getD i 0+1≤bC∨bC+1≤bs.getD i 0)
  omega
theorem mlens_leX {L:List (List RatD)} {m:Nat} (h:∀ i,i<L.length→(mx L i).length≤m) (j:Nat) (hj:j≤L.length):mlens L j≤j*m:=by
 induction j with
 | zero=>simp [mlens]
 | succ j ih =>
  have:=ih (by omega);have h1:=h j (by omega)
  simp only [mlens,Nat.add_mul,Nat.one_mul];omega
theorem cp_sz (nv:Int) (xs:List AtomD) (us:List Int):szLP (cpF nv xs us).A (cpF nv xs us).B (cpF nv xs us).C≤1048576:=by
 cases hq:qOK nv xs us with
 | false =>
  have ec:cpF nv xs us=⟨[],[],[],false⟩:=by unfold cpF;rw [if_neg (by rw [hq];simp)]
  rw [ec];simp [szLP,matSz,mlens]
 | true =>
  have ec:cpF nv xs us=⟨cvA (idTo nv.toNat) xs,List.replicate nv.toNat q1,List.replicate xs.length q1,true⟩:=by unfold cpF;rw [if_pos hq]
  obtain ⟨⟨v1,v2⟩,x1,x2⟩:=qOK_sz hq
  rw [ec]
  have hl:(cvA (idTo nv.toNat) xs).length=nv.toNat:=by rw [cvA_len,idTo_len]
  have h1:=mlens_leX (L:=cvA (idTo nv.toNat) xs) (m:=4) (fun i hi=>by
   rw [mx_lt hi]
   obtain ⟨v9,_,e⟩:=List.mem_map.1 (List.getElem_mem hi)
   rw [← e];simp [rowC];omega) _ (Nat.le_refl _)
  unfold szLP matSz
  rw [hl] at h1 ⊢
  simp only [List.length_replicate]
  have:nv.toNat≤5:=by omega
  omega
end
end Go.Proofs.YteiaofkgbdlpoaaDoor
