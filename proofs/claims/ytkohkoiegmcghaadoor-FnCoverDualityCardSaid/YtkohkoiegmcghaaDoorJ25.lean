/- Lemmas for the proof of FnCoverDuality, part 25 of 26: no condition of their own. -/
import Derived.Test.YtkohkoiegmcghaaDoorJ22
import Derived.Test.YtkohkoiegmcghaaDoorJ24
import Derived.Test.YtkohkoiegmcghaaDoorJ18
namespace Go.Proofs.YtkohkoiegmcghaaDoor
set_option linter.unusedSimpArgs false
set_option linter.unusedVariables false
attribute [local go_sem ↓] reduceIte
attribute [local go_sem] Nat.reduceEqDiff Nat.reduceLT Nat.reduceAdd Nat.reduceLeDiff Nat.reduceMul Nat.reduceBEq Nat.reduceSub reduceCtorEq Int.reduceLE Int.reduceNeg Int.reduceLT
open Go.RowKit
theorem law_of_afnG {f:FuncId} {args:List AV} {w:World} {vs:List Value} (h:AFnG f args (fun r os=>r=.d (.bool true)∧os=[])) (hg:GlobW w) (hv:∀ (G:Gh),G.C=(fun b _=>b<w.heap.size)→CVs G w args vs) :
 Calls Tryd.prog f vs.toArray w (Leaves w (.bool true)):=by
 refine (h.2 w ⟨fun b _=>b<w.heap.size,fun _=>.slice none 0 0,fun _=>0,fun _=>0,fun _=>0⟩ vs hg (hv _ rfl) (fun b i h=>h)).mono ?_
 rintro e w' ⟨v,r,os,G',rfl,hp⟩
 obtain ⟨rfl,rfl⟩:=hp.post
 obtain rfl:=cvBool.1 hp.res
 exact ⟨rfl,hp.fr.os,hp.fr.tape,hp.fr.output,hp.fr.size,fun k hk=>hp.fr.block k hk (fun ⟨i,hi,_⟩=>absurd hi (Nat.not_lt_zero _))⟩
theorem cv_mx {xs:List AtomD} {m v:Nat} (hv:v<m):mx (cvA (idTo m) xs) v=rowC xs v:=by simp [cvA,idTo,mx,List.getD,hv]
theorem cover_lp {nv:Int} {xs:List AtomD} {us:List Int} (h:qOK nv xs us=true):CoverLp nv.toNat xs.length (occP xs) (cvA (idTo nv.toNat) xs) (List.replicate nv.toNat q1) (List.replicate xs.length q1):=by
 obtain ⟨⟨v1,v2⟩,x1,x2⟩:=qOK_sz h
 obtain ⟨_,_,_,hc⟩:=qOK_out h
 refine ⟨by omega,by omega,by simp [cvA,idTo_len],fun v hv=>?_,rfl,rfl,fun v hv=>hc v (by omega)⟩
 rw [cv_mx hv]
 refine ⟨by simp [rowC],fun i hi=>?_⟩
 simp [rowC,qx,ax,List.getD,hi,occQ,occP]
theorem cd_law {nv:Int} {xs:List AtomD} {us:List Int} (h:qOK nv xs us=true):∃ A B C,cpF nv xs us=⟨A,B,C,true⟩∧lpV A B C=true∧feasF A B C (mcF nv xs us).pt 1=true∧(mcF nv xs us).found=true∧(mpF nv xs us).found=true∧(mcF nv xs us).val=(mpF nv xs us).val ∧
 sumF (mcF nv xs us).pt=some (mcF nv xs us).val∧sumF (mpF nv xs us).pt=some (mpF nv xs us).val∧covF nv xs us (mcF nv xs us).pt=true∧pakF nv xs us (mpF nv xs us).pt=true:=by
 have hL:=cover_lp h
 have e1:cpF nv xs us=⟨cvA (idTo nv.toNat) xs,List.replicate nv.toNat q1,List.replicate xs.length q1,true⟩:=by unfold cpF;rw [if_pos h]
 have em:mcF nv xs us=mnF (cvA (idTo nv.toNat) xs) (List.replicate nv.toNat q1) (List.replicate xs.length q1):=by unfold mcF;rw [e1]
 have ep:mpF nv xs us=mxF (trQ (cvA (idTo nv.toNat) xs) (List.replicate xs.length q1).length) (List.replicate xs.length q1) (List.replicate nv.toNat q1):=by
  unfold mpF dpF dlF;rw [e1,if_pos hL.lp]
 obtain ⟨a1,a2,a3,a4,⟨a5,a6,a7⟩,a8,a9,a10⟩:=hL.all
 obtain ⟨⟨v1,v2⟩,_,_⟩:=qOK_sz h
 rw [← em] at a1 a3 a4 a5 a6 a7
 rw [← ep] at a2 a3 a8 a9 a10
 refine ⟨_,_,_,e1,hL.lp,a4,a1,a2,a3,a6,a9,?_,?_⟩
 ·unfold covF
  rw [h,a5.adm,a7,decide_eq_true a5.1];rfl
 ·unfold pakF
  have:((mpF nv xs us).pt.length:Int)=nv:=by rw [a8.1];omega
  rw [h,a8.adm,a10,decide_eq_true this];rfl
theorem drawMcA (code:List Int) (hl:code.length≤1048576):AFn 15 [.d (.sl 1 (code.map .byte))] [] (fun r os=>anyQ r∧os=[]):=by
 refine afn_of (rv:=[.cell 2 27]) tyT_ok Tryd.func15 rfl (by decide +kernel) Tryd.ntmps15 rfl (by simp) ?_
 repeat' (first | refine sq ?_ | refine stp ?_ | refine blk_o (by decide) ?_ | (apply cb;(focus (simp (disch:=(first | omega | (simp;omega))) only [go_sem,w64];try exact rfl));refine cok ?_) | (refine rgT ?_;intro K hK) | (refine dA ?_;intro K hK) | (with_reducible refine hK _ ?_;clear hK K) | (refine stq ?_;simp (disch:=(first | omega | (simp;omega))) only [go_sem,w64]) | refine as1 ?_ | fail)
 refine call2 (l1NewA code hl) ?_
 repeat' (first | refine sq ?_ | refine stp ?_ | refine blk_o (by decide) ?_ | (apply cb;(focus (simp (disch:=(first | omega | (simp;omega))) only [go_sem,w64];try exact rfl));refine cok ?_) | (refine rgT ?_;intro K hK) | (refine dA ?_;intro K hK) | (with_reducible refine hK _ ?_;clear hK K) | (refine stq ?_;simp (disch:=(first | omega | (simp;omega))) only [go_sem,w64]) | refine as1 ?_ | fail)
 (refine callL 4 (l7AnyA) ?_)
 rintro r os ⟨⟨nv,xs,us,hA,rfl⟩,rfl⟩
 refine ⟨by decide,?_⟩
 repeat' (first | refine sq ?_ | refine stp ?_ | refine blk_o (by decide) ?_ | (apply cb;(focus (simp (disch:=(first | omega | (simp;omega))) only [go_sem,w64,queryD];try exact rfl));refine cok ?_) | (refine rgT ?_;intro K hK) | (refine dA ?_;intro K hK) | (with_reducible refine hK _ ?_;clear hK K) | (refine stq ?_;simp (disch:=(first | omega | (simp;omega))) only [go_sem,w64,queryD]) | refine as1 ?_ | fail)
 refine end0 0 (.inr rfl) (by simp (disch:=(first | omega | (simp;omega))) only [go_sem,w64];rfl) (r:=.d (queryD nv xs us)) (by simp (disch:=(first | omega | (simp;omega))) only [go_sem,w64,queryD];exact .refl _) ⟨⟨nv,xs,us,hA,rfl⟩,rfl⟩
section
variable (A:List (List RatD)) (B C x:List RatD) (hA:A.length≤1048576) (hr:∀ i,i<A.length→(mx A i).length≤1048576) (hB:B.length≤1048576) (hC:C.length≤1048576) (hx:x.length≤1048576)
include hA hr hB hC hx
theorem specFeasMinD:AFn 21 [.d (lpD A B C),.d (ratsD x)] [] (fun r os=>r=.d (.bool (feasF A B C x 1))∧os=[]):=by
 refine afn_of (rv:=[.tmp 4]) tyT_ok Tryd.func21 rfl (by decide +kernel) Tryd.ntmps21 rfl (by simp) ?_
 repeat' (first | refine sq ?_ | refine stp ?_ | refine blk_o (by decide) ?_ | (apply cb;(focus (simp (disch:=(first | omega | (simp;omega))) only [go_sem,w64,lpD];try exact rfl));refine cok ?_) | (refine rgT ?_;intro K hK) | (refine dA ?_;intro K hK) | (with_reducible refine hK _ ?_;clear hK K) | (refine stq ?_;simp (disch:=(first | omega | (simp;omega))) only [go_sem,w64,lpD]) | refine as1 ?_ | fail)
 (first | refine callA (specSideA A B C x 1 hA hr hB hC hx (.inl rfl)) ?_ | refine callD (specSideA A B C x 1 hA hr hB hC hx (.inl rfl)) ?_ | refine callE (specSideA A B C x 1 hA hr hB hC hx (.inl rfl)) ?_ | refine callF (specSideA A B C x 1 hA hr hB hC hx (.inl rfl)) ?_ ?_)
 repeat' (first | refine sq ?_ | refine stp ?_ | refine blk_o (by decide) ?_ | (apply cb;(focus (simp (disch:=(first | omega | (simp;omega))) only [go_sem,w64];try exact rfl));refine cok ?_) | (refine rgT ?_;intro K hK) | (refine dA ?_;intro K hK) | (with_reducible refine hK _ ?_;clear hK K) | (refine stq ?_;simp (disch:=(first | omega | (simp;omega))) only [go_sem,w64]) | refine as1 ?_ | fail)
 (refine endA (r:=.d (.bool (feasF A B C x 1))) ?_)
 exact ⟨rfl,rfl⟩
end
set_option maxRecDepth 100000 in
set_option maxHeartbeats 4000000 in
theorem lawCoverDG (code:List Int) (hl:code.length≤9223372036854775807):AFnG 4 [.d (.sl 1 (code.map .byte))] (fun r os=>r=.d (.bool true)∧os=[]):=by
 refine afn_ofG (rv:=[.tmp 2]) tyW_ok Tryd.func4 rfl (by decide +kernel) Tryd.ntmps4 rfl (by simp) ?_
 by_cases hb:(1048576:Int)<(code.length:Nat)
 ·repeat' (first | refine sq ?_ | refine stp ?_ | refine blk_o (by decide) ?_ | (apply cb;(focus (simp (disch:=(first | omega | (simp;omega))) only [go_sem,w64];try exact rfl));refine cok ?_) | (refine rgT ?_;intro K hK) | (refine dA ?_;intro K hK) | (with_reducible refine hK _ ?_;clear hK K) | (refine stq ?_;simp (disch:=(first | omega | (simp;omega))) only [go_sem,w64]) | refine as1 ?_ | fail)
  (first | refine callA (bigA code hl) ?_ | refine callD (bigA code hl) ?_ | refine callE (bigA code hl) ?_ | refine callF (bigA code hl) ?_ ?_)
  repeat' (first | refine sq ?_ | refine stp ?_ | refine blk_o (by decide) ?_ | (apply cb;(focus (simp (disch:=(first | omega | (simp;omega))) only [go_sem,w64,hb];try exact rfl));refine cok ?_) | (refine rgT ?_;intro K hK) | (refine dA ?_;intro K hK) | (with_reducible refine hK _ ?_;clear hK K) | (refine stq ?_;simp (disch:=(first | omega | (simp;omega))) only [go_sem,w64,hb]) | refine as1 ?_ | fail)
  (refine endA (r:=.d (.bool true)) ?_)
  exact ⟨rfl,rfl⟩
 have hb':(1048576:Int)<(code.length:Nat)↔False:=iff_of_false hb id
 have hc:code.length≤1048576:=by omega
 repeat' (first | refine sq ?_ | refine stp ?_ | refine blk_o (by decide) ?_ | (apply cb;(focus (simp (disch:=(first | omega | (simp;omega))) only [go_sem,w64];try exact rfl));refine cok ?_) | (refine rgT ?_;intro K hK) | (refine dA ?_;intro K hK) | (with_reducible refine hK _ ?_;clear hK K) | (refine stq ?_;simp (disch:=(first | omega | (simp;omega))) only [go_sem,w64]) | refine as1 ?_ | fail)
 (first | refine callA (bigA code hl) ?_ | refine callD (bigA code hl) ?_ | refine callE (bigA code hl) ?_ | refine callF (bigA code hl) ?_ ?_)
 repeat' (first | refine sq ?_ | refine stp ?_ | refine blk_o (by decide) ?_ | (apply cb;(focus (simp (disch:=(first | omega | (simp;omega))) only [go_sem,w64,hb'];try exact rfl));refine cok ?_) | (refine rgT ?_;intro K hK) | (refine dA ?_;intro K hK) | (with_reducible refine hK _ ?_;clear hK K) | (refine stq ?_;simp (disch:=(first | omega | (simp;omega))) only [go_sem,w64,hb']) | refine as1 ?_ | fail)
 refine callE (drawMcA code hc) ?_
 rintro r os ⟨⟨nv,xs,us,hA,rfl⟩,rfl⟩
 refine ⟨by decide,?_⟩
 have hmc:=implMinCoverG nv xs us hA.nm
 have hmp:=implMaxPackG nv xs us hA.nm
 have hcv:=implCoverG nv xs us hA.nm
 have hvq:=specValidQA nv xs us hA.nm
 have hms:=mc_sz nv xs us
 have hps:=mp_sz nv xs us
 have hx5:=hA.a1
 have hcf:=specCovA nv xs us hA.nm (mcF nv xs us).pt hms (by omega)
 have hpf:=specPakA nv xs us hA.nm (mpF nv xs us).pt hps (by omega)
 have hs1:=specSumA (mcF nv xs us).pt hms
 have hs2:=specSumA (mpF nv xs us).pt hps
 have hcd:=fun h=>cd_law (nv:=nv) (xs:=xs) (us:=us) h
 have hno:qOK nv xs us=false→(mcF nv xs us).found=false∧(mpF nv xs us).found=false:=fun h=>by
  have hk:(cpF nv xs us).ok=false:=by unfold cpF;rw [if_neg (by rw [h];simp)]
  rw [mc_no hk,mp_no hk];exact ⟨rfl,rfl⟩
 have hcs:=cp_small nv xs us
 repeat' (first | refine sq ?_ | refine stp ?_ | refine blk_o (by decide) ?_ | (apply cb;(focus (simp (disch:=(first | omega | (simp;omega))) only [go_sem,w64,queryD,intsD];try exact rfl));refine cok ?_) | (with_reducible refine hK _ ?_;clear hK K) | (refine stq ?_;simp (disch:=(first | omega | (simp;omega))) only [go_sem,w64,queryD,intsD]) | refine as1 ?_ | fail)
 refine awp_weak (s':=mkS [(3,.ptr 3 0)] [(3,[.d (.int nv),.d (.sl 2 (xs.map atomDV)),.d (.sl 1 (us.map .int))])]) (by (refine sle_mk ?_ ?_ <;> simp (disch:=(first | omega | (simp;omega))) only [go_sem,w64,queryD,intsD] <;> exact leafs)) ?_
 generalize hM1:mcF nv xs us=M1 at *
 generalize hM2:mpF nv xs us=M2 at *
 refine awp_regionY (o:=?oa) tyW_ok 1 ?ha1 ?ha2 ?ha3
 case ha1=>rfl
 case ha2=>rfl
 intro K K2 hK hK2
 repeat' (first | refine sq ?_ | refine stp ?_ | refine blk_o (by decide) ?_ | (apply cb;(focus (simp (disch:=(first | omega | (simp;omega))) only [go_sem,w64,queryD,intsD];try exact rfl));refine cok ?_) | (with_reducible refine hK _ ?_;clear hK K) | (refine stq ?_;simp (disch:=(first | omega | (simp;omega))) only [go_sem,w64,queryD,intsD]) | refine as1 ?_ | fail)
 refine lcallG 22 rfl rfl rfl (by decide) hmc (by (repeat (first | exact ASubs.nil | refine ASubs.cons (by first | exact ASub.d _ | exact ASub.dd (dle_wh _ _) | exact ASub.dd (dle_rowsV _) | exact ASub.dd (dle_rowsW _) | exact ASub.dd (dle_relW _ _) | exact ASub.bufd _ _ (dle_rowsV _) | exact ASub.nil _ | exact ASub.nn | exact ASub.buf _ _ _ _ | exact ASub.loc _ | exact ASub.ptr _ _ _ rfl | exact ASub.arr _ _ _ _ rfl | exact ASub.any _ | exact ASub.std rfl (dle_refl _)) ?_));done) ?_
 rintro r os ⟨rfl,rfl⟩
 refine ⟨by simp,hK2 _ ?_⟩
 clear hK2 K2
 repeat' (first | refine sq ?_ | refine stp ?_ | refine blk_o (by decide) ?_ | (apply cb;(focus (simp (disch:=(first | omega | (simp;omega))) only [go_sem,w64,ansB,ratDV];try exact rfl));refine cok ?_) | (with_reducible refine hK _ ?_;clear hK K) | (refine stq ?_;simp (disch:=(first | omega | (simp;omega))) only [go_sem,w64,ansB,ratDV]) | refine as1 ?_ | fail)
 refine awp_weak (s':=mkS [(3,.ptr 3 0),(4,.d (whQ M1.pt)),(5,.ptr 5 0),(6,.d (.bool M1.found))] [(3,[.d (.int nv),.d (.sl 2 (xs.map atomDV)),.d (.sl 1 (us.map .int))]),(5,[.d (.int M1.val.num),.d (.int M1.val.den)])]) (by exact sleA) ?_
 refine awp_regionY (o:=?ob) tyW_ok 1 ?hb1 ?hb2 ?hb3
 case hb1=>rfl
 case hb2=>rfl
 intro K K2 hK hK2
 repeat' (first | refine sq ?_ | refine stp ?_ | refine blk_o (by decide) ?_ | (apply cb;(focus (simp (disch:=(first | omega | (simp;omega))) only [go_sem,w64,queryD,intsD];try exact rfl));refine cok ?_) | (with_reducible refine hK _ ?_;clear hK K) | (refine stq ?_;simp (disch:=(first | omega | (simp;omega))) only [go_sem,w64,queryD,intsD]) | refine as1 ?_ | fail)
 refine lcallG 28 rfl rfl rfl (by decide) hmp (by (repeat (first | exact ASubs.nil | refine ASubs.cons (by first | exact ASub.d _ | exact ASub.dd (dle_wh _ _) | exact ASub.dd (dle_rowsV _) | exact ASub.dd (dle_rowsW _) | exact ASub.dd (dle_relW _ _) | exact ASub.bufd _ _ (dle_rowsV _) | exact ASub.nil _ | exact ASub.nn | exact ASub.buf _ _ _ _ | exact ASub.loc _ | exact ASub.ptr _ _ _ rfl | exact ASub.arr _ _ _ _ rfl | exact ASub.any _ | exact ASub.std rfl (dle_refl _)) ?_));done) ?_
 rintro r os ⟨rfl,rfl⟩
 refine ⟨by simp,hK2 _ ?_⟩
 clear hK2 K2
 repeat' (first | refine sq ?_ | refine stp ?_ | refine blk_o (by decide) ?_ | (apply cb;(focus (simp (disch:=(first | omega | (simp;omega))) only [go_sem,w64,ansB,ratDV];try exact rfl));refine cok ?_) | (with_reducible refine hK _ ?_;clear hK K) | (refine stq ?_;simp (disch:=(first | omega | (simp;omega))) only [go_sem,w64,ansB,ratDV]) | refine as1 ?_ | fail)
 refine awp_weak (s':=mkS [(3,.ptr 3 0),(4,.d (whQ M1.pt)),(5,.ptr 5 0),(6,.d (.bool M1.found)),(7,.d (whQ M2.pt)),(8,.ptr 8 0),(9,.d (.bool M2.found))] [(3,[.d (.int nv),.d (.sl 2 (xs.map atomDV)),.d (.sl 1 (us.map .int))]),(5,[.d (.int M1.val.num),.d (.int M1.val.den)]),(8,[.d (.int M2.val.num),.d (.int M2.val.den)])]) (by exact sleA) ?_
 repeat' (first | refine sq ?_ | refine stp ?_ | refine blk_o (by decide) ?_ | (apply cb;(focus (simp (disch:=(first | omega | (simp;omega))) only [go_sem,w64,queryD,intsD];try exact rfl));refine cok ?_) | (refine rgT ?_;intro K hK) | (refine dA ?_;intro K hK) | (with_reducible refine hK _ ?_;clear hK K) | (refine stq ?_;simp (disch:=(first | omega | (simp;omega))) only [go_sem,w64,queryD,intsD]) | refine as1 ?_ | fail)
 (first | refine callA (hvq) ?_ | refine callD (hvq) ?_ | refine callE (hvq) ?_ | refine callF (hvq) ?_ ?_)
 cases hq:qOK nv xs us with
 | false =>
  obtain ⟨n1,n2⟩:=hno hq
  repeat' (first | refine sq ?_ | refine stp ?_ | refine blk_o (by decide) ?_ | (apply cb;(focus (simp (disch:=(first | omega | (simp;omega))) only [go_sem,w64,n1,n2];try exact rfl));refine cok ?_) | (refine rgT ?_;intro K hK) | (refine dA ?_;intro K hK) | (with_reducible refine hK _ ?_;clear hK K) | (refine stq ?_;simp (disch:=(first | omega | (simp;omega))) only [go_sem,w64,n1,n2]) | refine as1 ?_ | fail)
  (refine endA (r:=.d (.bool true)) ?_)
  exact ⟨rfl,rfl⟩
 | true =>
  obtain ⟨A,B,C,e1,k1,k2,k3,k4,k5,k6,k7,k8,k9⟩:=hcd hq
  rw [k6] at hs1
  rw [k7] at hs2
  rw [k8] at hcf
  rw [k9] at hpf
  obtain ⟨sa,sr,sb,sc⟩:=hcs
  rw [e1] at hcv sa sr sb sc
  have hlp:=specLpA A B C sa sb sc
  rw [k1] at hlp
  have hfm:=specFeasMinD A B C M1.pt sa sr sb sc hms
  rw [k2] at hfm
  repeat' (first | refine sq ?_ | refine stp ?_ | refine blk_o (by decide) ?_ | (apply cb;(focus (simp (disch:=(first | omega | (simp;omega))) only [go_sem,w64];try exact rfl));refine cok ?_) | (refine rgT ?_;intro K hK) | (refine dA ?_;intro K hK) | (with_reducible refine hK _ ?_;clear hK K) | (refine stq ?_;simp (disch:=(first | omega | (simp;omega))) only [go_sem,w64]) | refine as1 ?_ | fail)
  (first | refine callA (hs1) ?_ | refine callD (hs1) ?_ | refine callE (hs1) ?_ | refine callF (hs1) ?_ ?_)
  repeat' (first | refine sq ?_ | refine stp ?_ | refine blk_o (by decide) ?_ | (apply cb;(focus (simp (disch:=(first | omega | (simp;omega))) only [go_sem,w64,ansQ,ratDV];try exact rfl));refine cok ?_) | (refine rgT ?_;intro K hK) | (refine dA ?_;intro K hK) | (with_reducible refine hK _ ?_;clear hK K) | (refine stq ?_;simp (disch:=(first | omega | (simp;omega))) only [go_sem,w64,ansQ,ratDV]) | refine as1 ?_ | fail)
  (first | refine callA (hs2) ?_ | refine callD (hs2) ?_ | refine callE (hs2) ?_ | refine callF (hs2) ?_ ?_)
  repeat' (first | refine sq ?_ | refine stp ?_ | refine blk_o (by decide) ?_ | (apply cb;(focus (simp (disch:=(first | omega | (simp;omega))) only [go_sem,w64,ansQ,ratDV];try exact rfl));refine cok ?_) | (with_reducible refine hK _ ?_;clear hK K) | (refine stq ?_;simp (disch:=(first | omega | (simp;omega))) only [go_sem,w64,ansQ,ratDV]) | refine as1 ?_ | fail)
  refine awp_weak (s':=mkS [(3,.ptr 3 0),(4,.d (whQ M1.pt)),(5,.ptr 5 0),(6,.d (.bool M1.found)),(7,.d (whQ M2.pt)),(8,.ptr 8 0),(9,.d (.bool M2.found)),(10,.ptr 10 0),(12,.ptr 12 0)] [(3,[.d (.int nv),.d (.sl 2 (xs.map atomDV)),.d (.sl 1 (us.map .int))]),(5,[.d (.int M1.val.num),.d (.int M1.val.den)]),(8,[.d (.int M2.val.num),.d (.int M2.val.den)]),(10,[.d (.int M1.val.num),.d (.int M1.val.den)]),(12,[.d (.int M2.val.num),.d (.int M2.val.den)])]) (by exact sleA) ?_
  refine awp_regionY (o:=?oc) tyW_ok 1 ?hc1 ?hc2 ?hc3
  case hc1=>rfl
  case hc2=>rfl
  intro K K2 hK hK2
  repeat' (first | refine sq ?_ | refine stp ?_ | refine blk_o (by decide) ?_ | (apply cb;(focus (simp (disch:=(first | omega | (simp;omega))) only [go_sem,w64,queryD,intsD];try exact rfl));refine cok ?_) | (with_reducible refine hK _ ?_;clear hK K) | (refine stq ?_;simp (disch:=(first | omega | (simp;omega))) only [go_sem,w64,queryD,intsD]) | refine as1 ?_ | fail)
  refine lcallG 53 rfl rfl rfl (by decide) hcv (by (repeat (first | exact ASubs.nil | refine ASubs.cons (by first | exact ASub.d _ | exact ASub.dd (dle_wh _ _) | exact ASub.dd (dle_rowsV _) | exact ASub.dd (dle_rowsW _) | exact ASub.dd (dle_relW _ _) | exact ASub.bufd _ _ (dle_rowsV _) | exact ASub.nil _ | exact ASub.nn | exact ASub.buf _ _ _ _ | exact ASub.loc _ | exact ASub.ptr _ _ _ rfl | exact ASub.arr _ _ _ _ rfl | exact ASub.any _ | exact ASub.std rfl (dle_refl _)) ?_));done) ?_
  rintro r os ⟨rfl,rfl⟩
  refine ⟨by simp,hK2 _ ?_⟩
  clear hK2 K2
  have hd1:∀ x:RatD,eqTOK 33 [.int x.num,.int x.den]=true:=fun x=>eqT2 _ _
  obtain ⟨k3a,k4a⟩:=And.intro k3 k4
  rw [← k5] at *
  repeat' (first | refine sq ?_ | refine stp ?_ | refine blk_o (by decide) ?_ | (apply cb;(focus (simp (disch:=(first | omega | (simp;omega))) only [go_sem,w64,e1,ansP,lpD];try exact rfl));refine cok ?_) | (with_reducible refine hK _ ?_;clear hK K) | (refine stq ?_;simp (disch:=(first | omega | (simp;omega))) only [go_sem,w64,e1,ansP,lpD]) | refine as1 ?_ | fail)
  repeat' (first | refine sq ?_ | refine stp ?_ | refine blk_o (by decide) ?_ | (apply cb;(focus (simp (disch:=(first | omega | (simp;omega))) only [go_sem,w64,lpD,queryD,intsD,k3a,k4a];try exact rfl));refine cok ?_) | (refine rgT ?_;intro K hK) | (refine dA ?_;intro K hK) | (with_reducible refine hK _ ?_;clear hK K) | (refine stq ?_;simp (disch:=(first | omega | (simp;omega))) only [go_sem,w64,lpD,queryD,intsD,k3a,k4a]) | refine as1 ?_ | fail)
  (first | refine callA (hcf) ?_ | refine callD (hcf) ?_ | refine callE (hcf) ?_ | refine callF (hcf) ?_ ?_)
  repeat' (first | refine sq ?_ | refine stp ?_ | refine blk_o (by decide) ?_ | (apply cb;(focus (simp (disch:=(first | omega | (simp;omega))) only [go_sem,w64,lpD,queryD,intsD,k3a,k4a];try exact rfl));refine cok ?_) | (refine rgT ?_;intro K hK) | (refine dA ?_;intro K hK) | (with_reducible refine hK _ ?_;clear hK K) | (refine stq ?_;simp (disch:=(first | omega | (simp;omega))) only [go_sem,w64,lpD,queryD,intsD,k3a,k4a]) | refine as1 ?_ | fail)
  (first | refine callA (hpf) ?_ | refine callD (hpf) ?_ | refine callE (hpf) ?_ | refine callF (hpf) ?_ ?_)
  repeat' (first | refine sq ?_ | refine stp ?_ | refine blk_o (by decide) ?_ | (apply cb;(focus (simp (disch:=(first | omega | (simp;omega))) only [go_sem,w64,eqT2,eqDs,eqD,and_self,true_and,lpD,k3a,k4a];try exact rfl));refine cok ?_) | (refine rgT ?_;intro K hK) | (refine dA ?_;intro K hK) | (with_reducible refine hK _ ?_;clear hK K) | (refine stq ?_;simp (disch:=(first | omega | (simp;omega))) only [go_sem,w64,eqT2,eqDs,eqD,and_self,true_and,lpD,k3a,k4a]) | refine as1 ?_ | fail)
  (first | refine callA (hlp) ?_ | refine callD (hlp) ?_ | refine callE (hlp) ?_ | refine callF (hlp) ?_ ?_)
  repeat' (first | refine sq ?_ | refine stp ?_ | refine blk_o (by decide) ?_ | (apply cb;(focus (simp (disch:=(first | omega | (simp;omega))) only [go_sem,w64,lpD];try exact rfl));refine cok ?_) | (refine rgT ?_;intro K hK) | (refine dA ?_;intro K hK) | (with_reducible refine hK _ ?_;clear hK K) | (refine stq ?_;simp (disch:=(first | omega | (simp;omega))) only [go_sem,w64,lpD]) | refine as1 ?_ | fail)
  (first | refine callA (hfm) ?_ | refine callD (hfm) ?_ | refine callE (hfm) ?_ | refine callF (hfm) ?_ ?_)
  repeat' (first | refine sq ?_ | refine stp ?_ | refine blk_o (by decide) ?_ | (apply cb;(focus (simp (disch:=(first | omega | (simp;omega))) only [go_sem,w64];try exact rfl));refine cok ?_) | (refine rgT ?_;intro K hK) | (refine dA ?_;intro K hK) | (with_reducible refine hK _ ?_;clear hK K) | (refine stq ?_;simp (disch:=(first | omega | (simp;omega))) only [go_sem,w64]) | refine as1 ?_ | fail)
  (refine endA (r:=.d (.bool true)) ?_)
  exact ⟨rfl,rfl⟩
theorem law_FnCoverDuality (a0:Option Addr) (n0:Nat) (c0:Nat) (xs0:List Int) (w:World) (hD0:BytesA false (0) w.heap.size w a0 n0 c0 xs0) (hG:GlobW w) :
 Calls Tryd.prog 4 #[.slice a0 n0 c0] w (Leaves w (.bool true)):=by
 have h:=lawCoverDG xs0 (by rw [hD0.len];exact hD0.small)
 exact law_of_afnG (vs:=[.slice a0 n0 c0]) h hG (fun G hG=>⟨_,_,rfl,cvSl.2 (bytes_cx hD0 (fun b i _ hb=>by rw [hG];exact hb)),rfl⟩)
end Go.Proofs.YtkohkoiegmcghaaDoor
