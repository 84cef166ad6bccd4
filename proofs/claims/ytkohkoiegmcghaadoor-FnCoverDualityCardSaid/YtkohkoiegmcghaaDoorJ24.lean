/- Lemmas for the proof of FnCoverDuality, part 24 of 26: no condition of their own. -/
import Derived.Test.YtkohkoiegmcghaaDoorJ23
import Derived.Test.YtkohkoiegmcghaaDoorJ18
import Derived.Test.YtkohkoiegmcghaaDoorJ1
import Derived.ProofKit
import Derived.OpenShut
import Derived.ShutString
import Derived.ChangeOld
import Derived.Below
import Derived.Deep.Slices
import Derived.Test.YtkohkoiegmcghaaDoorJ6
import Derived.ChangeSame
namespace Go.Proofs.YtkohkoiegmcghaaDoor
set_option linter.unusedSimpArgs false
set_option linter.unusedVariables false
attribute [local go_sem ↓] reduceIte
attribute [local go_sem] Nat.reduceEqDiff Nat.reduceLT Nat.reduceAdd Nat.reduceLeDiff Nat.reduceMul Nat.reduceBEq Nat.reduceSub reduceCtorEq Int.reduceLE Int.reduceNeg Int.reduceLT
open Go.RowKit
theorem l1PickS (xs:List (List UInt8)) (h0:0<xs.length) (hl:xs.length≤1000):AFn 51 [.ptr 0 0,.d (.sl 1 (xs.map strD))] [curL] (fun r os=>∃ x,x∈xs∧r=.d (.str (bs x))∧os=[curL]):=by
 refine afn_of (rv:=[.tmp 4]) tyT_ok Tryd.func51 rfl (by decide +kernel) Tryd.ntmps51 rfl (by simp) ?_
 repeat' (first | refine sq ?_ | refine stp ?_ | refine blk_o (by decide) ?_ | (apply cb;(focus (simp (disch:=(first | omega | (simp;omega))) only [go_sem,w64];try exact rfl));refine cok ?_) | (refine rgT ?_;intro K hK) | (refine dA ?_;intro K hK) | (with_reducible refine hK _ ?_;clear hK K) | (refine stq ?_;simp (disch:=(first | omega | (simp;omega))) only [go_sem,w64]) | refine as1 ?_ | fail)
 (refine callL 1000000 (l1BelowA (xs.length:Nat)) ?_)
 rintro r os ⟨x,⟨hx0,_,hx1⟩,rfl,rfl⟩
 have hx2:=hx1 (by omega)
 have hk:x.toNat<xs.length:=by omega
 have g0:(xs.map strD).getD x.toNat (.bool false)=.str (bs xs[x.toNat]):=getDSt hk
 refine ⟨by decide,?_⟩
 repeat' (first | refine sq ?_ | refine stp ?_ | refine blk_o (by decide) ?_ | (apply cb;(focus (simp (disch:=(first | omega | (simp;omega))) only [go_sem,w64,g0];try exact rfl));refine cok ?_) | (refine rgT ?_;intro K hK) | (refine dA ?_;intro K hK) | (with_reducible refine hK _ ?_;clear hK K) | (refine stq ?_;simp (disch:=(first | omega | (simp;omega))) only [go_sem,w64,g0]) | refine as1 ?_ | fail)
 refine end1 0 (.inr rfl) (by simp (disch:=(first | omega | (simp;omega))) only [go_sem,w64];rfl) (by simp (disch:=(first | omega | (simp;omega))) only [go_sem,w64];rfl) (r:=.d (.str (bs xs[x.toNat]))) (by simp (disch:=(first | omega | (simp;omega))) only [go_sem,w64];exact .refl _) ?_
 exact ⟨_,List.getElem_mem _,rfl,rfl⟩
theorem scr_tm (fb fo:Nat→Bool) (s:AS) (t:Nat):(s.scr fb fo).tm t=scrub fb fo (s.tm t):=rfl
theorem scr_ob (fb fo:Nat→Bool) (s:AS) (o:Nat):(s.scr fb fo).ob o=(s.ob o).map (List.map (scrub fb fo)):=rfl
theorem end12 {ty:TypeId→Option TyI} {N:Nat} {s:AS} {rv:List ResultVar} {R:AV→List (List AV)→Prop} {e:Exit} (g g1:Nat) {xs:List AV} {r:AV} {l:List AV} (hgg:g ≠ g1) (he:e=.normal∨e=.ret) (hx:finA ty N s rv=some xs) (hob:s.ob 1000000=some l) (h:ALe (outA2 [1000000] g g1 (retA xs)) r) (hR:R r [outAs2 [1000000] g g1 l]):EndA2 ty N 1 rv R e s :=
 ⟨he,[],g,g1,xs,[outAs2 [1000000] g g1 l],hgg,hx,by simp [lentN],by simp,by simp [lentN,obsOut2,hob],r,by simpa [lentN] using h,hR⟩
def knownL:List (List UInt8):=[[40,88,89,90,41,61,114,40,88,89,41,44,115,40,89,90,41,44,116,40,90,88,41],[40,88,89,90,85,41,61,114,40,88,89,41,44,115,40,89,90,41,44,116,40,90,85,41,44,117,40,85,88,41],[40,88,89,90,41,61,114,40,88,89,41,44,115,40,89,90,41],[40,88,41,61,114,40,88,89,41,44,115,40,89,90,41,44,116,40,90,85,41],[40,88,89,90,41,61,118,40,88,89,90,41,44,114,40,88,89,41],[40,88,89,41,61,114,40,88,89,41,44,114,40,89,88,41],[40,88,89,90,85,41,61,118,40,88,89,90,41,44,115,40,90,85,41,44,116,40,85,88,41],[40,88,41,61,114,40,88,88,41],[40,88,89,41,61,114,40,88,90,41,44,115,40,90,89,41,44,114,40,88,85,41,44,115,40,85,89,41],[40,41,61,114,40,88,89,41,44,115,40,89,88,41],[40,88,89,90,85,86,41,61,114,40,88,89,41,44,115,40,89,90,41,44,116,40,90,85,41,44,117,40,85,86,41]]
theorem known_ok:knownL.all knowB=true:=by decide +kernel
theorem nms_at {k:Int} (h0:0≤k) (h5:k<5):∃ nb:List UInt8,nb.length=1∧[DV.str (ByteArray.mk #[114]),.str (ByteArray.mk #[115]),.str (ByteArray.mk #[116]),.str (ByteArray.mk #[117]),.str (ByteArray.mk #[118])].getD k.toNat (.bool false)=.str (bs nb):=by
 have:k=0∨k=1∨k=2∨k=3∨k=4:=by omega
 rcases this with rfl | rfl | rfl | rfl | rfl
 ·exact ⟨[114],rfl,rfl⟩
 ·exact ⟨[115],rfl,rfl⟩
 ·exact ⟨[116],rfl,rfl⟩
 ·exact ⟨[117],rfl,rfl⟩
 ·exact ⟨[118],rfl,rfl⟩
set_option maxHeartbeats 4000000 in
set_option maxRecDepth 100000 in
theorem l7QueryA:AFn 49 [.ptr 0 0] [curL] (fun r os=>QFit r∧os=[curL]):=by
 refine afn_of2 (rv:=[.cell 2 27]) tyS_ok Tryd.func49 rfl (by decide +kernel) Tryd.ntmps49 rfl (by simp) ?_
 repeat' (first | refine sq ?_ | refine stp ?_ | refine blk_o (by decide) ?_ | (apply cb;(focus (simp (disch:=(first | omega | (simp;omega))) only [go_sem,w64];try exact rfl));refine cok ?_) | (with_reducible refine hK _ ?_;clear hK K) | (refine stq ?_;simp (disch:=(first | omega | (simp;omega))) only [go_sem,w64]) | refine as1 ?_ | fail)
 refine awp_region' tyS_ok ?_;intro K hK
 repeat' (first | refine sq ?_ | refine stp ?_ | refine blk_o (by decide) ?_ | (apply cb;(focus (simp (disch:=(first | omega | (simp;omega))) only [go_sem,w64];try exact rfl));refine cok ?_) | (with_reducible refine hK _ ?_;clear hK K) | (refine stq ?_;simp (disch:=(first | omega | (simp;omega))) only [go_sem,w64]) | refine as1 ?_ | fail)
 refine awp_region' tyS_ok ?_;intro K hK
 repeat' (first | refine sq ?_ | refine stp ?_ | refine blk_o (by decide) ?_ | (apply cb;(focus (simp (disch:=(first | omega | (simp;omega))) only [go_sem,w64];try exact rfl));refine cok ?_) | (with_reducible refine hK _ ?_;clear hK K) | (refine stq ?_;simp (disch:=(first | omega | (simp;omega))) only [go_sem,w64]) | refine as1 ?_ | fail)
 refine awp_weak (s':=mkS [(0,.ptr 1000000 0),(2,.ptr 2 0),(3,.buf 12 9 1 (knownL.map strD))] [(2,[.d (.int 0),.nil,.nil]),(1000000,curL)]) (by exact sleA) ?_
 refine awp_regionX (o:=?o) tyS_ok 3 ?h1 ?h2 ?h3
 case h1=>rfl
 case h2=>rfl
 intro K hK
 repeat' (first | refine sq ?_ | refine stp ?_ | refine blk_o (by decide) ?_ | (apply cb;(focus (simp (disch:=(first | omega | (simp;omega))) only [go_sem,w64];try exact rfl));refine cok ?_) | (with_reducible refine hK _ ?_;clear hK K) | (refine stq ?_;simp (disch:=(first | omega | (simp;omega))) only [go_sem,w64]) | refine as1 ?_ | fail)
 (refine callL 1000000 (l1PickS knownL (by decide) (by decide)) ?_)
 rintro r os ⟨s0,hs0,rfl,rfl⟩
 refine ⟨by decide,?_⟩
 have hkn:=List.all_eq_true.1 known_ok s0 hs0
 repeat' (first | refine sq ?_ | refine stp ?_ | refine blk_o (by decide) ?_ | (apply cb;(focus (simp (disch:=(first | omega | (simp;omega))) only [go_sem,w64];try exact rfl));refine cok ?_) | (with_reducible refine hK _ ?_;clear hK K) | (refine stq ?_;simp (disch:=(first | omega | (simp;omega))) only [go_sem,w64]) | refine as1 ?_ | fail)
 refine lcall2 [] 17 90 rfl rfl rfl (by decide) (by decide) (parseKnown hkn) (by (repeat (first | exact ASubs.nil | refine ASubs.cons (by first | exact ASub.d _ | exact ASub.dd (dle_wh _ _) | exact ASub.dd (dle_rowsV _) | exact ASub.dd (dle_rowsW _) | exact ASub.dd (dle_relW _ _) | exact ASub.bufd _ _ (dle_rowsV _) | exact ASub.nil _ | exact ASub.nn | exact ASub.buf _ _ _ _ | exact ASub.loc _ | exact ASub.ptr _ _ _ rfl | exact ASub.arr _ _ _ _ rfl | exact ASub.any _ | exact ASub.std rfl (dle_refl _)) ?_));done) rfl (by simp) (by simp) ?_
 rintro r os ⟨q,⟨nv0,xs0,us0,hq0,hn0,rfl⟩,rfl,rfl⟩
 refine ⟨by simp,?_⟩
 simp (disch:=(first | omega | (simp;omega))) only [go_sem,w64,renA2,renAs2,scr_tm,scr_ob]
 refine hK _ ?_
 clear hK
 repeat' (first | refine sq ?_ | refine stp ?_ | refine blk_o (by decide) ?_ | (apply cb;(focus (simp (disch:=(first | omega | (simp;omega))) only [go_sem,w64];try exact rfl));refine cok ?_) | (with_reducible refine hK _ ?_;clear hK K) | (refine stq ?_;simp (disch:=(first | omega | (simp;omega))) only [go_sem,w64]) | refine as1 ?_ | fail)
 refine awp_weak (s':=mkS [(0,.ptr 1000000 0),(2,.ptr 2 0),(4,.ptr 4 0)] [(2,[.d (.int 0),.nil,.nil]),(4,[.d (.int nv0),.buf 17 57 2 (xs0.map atomDV),.buf 90 3 1 (us0.map .int)]),(1000000,curL)]) (by (refine sle_mk ?_ ?_ <;> simp (disch:=(first | omega | (simp;omega))) only [go_sem,w64,scr_tm,scr_ob] <;> exact leafs)) ?_
 clear hkn hs0 s0
 repeat' (first | refine sq ?_ | refine stp ?_ | refine blk_o (by decide) ?_ | (apply cb;(focus (simp (disch:=(first | omega | (simp;omega))) only [go_sem,w64];try exact rfl));refine cok ?_) | (refine rgS ?_;intro K hK) | (refine dA ?_;intro K hK) | (with_reducible refine hK _ ?_;clear hK K) | (refine stq ?_;simp (disch:=(first | omega | (simp;omega))) only [go_sem,w64]) | refine as1 ?_ | fail)
 (refine callL 1000000 (l1OnceA 3) ?_)
 rintro r os ⟨b,rfl,rfl⟩
 refine ⟨by decide,?_⟩
 cases b with
 | false =>
  repeat' (first | refine sq ?_ | refine stp ?_ | refine blk_o (by decide) ?_ | (apply cb;(focus (simp (disch:=(first | omega | (simp;omega))) only [go_sem,w64];try exact rfl));refine cok ?_) | (refine rgS ?_;intro K hK) | (refine dA ?_;intro K hK) | (with_reducible refine hK _ ?_;clear hK K) | (refine stq ?_;simp (disch:=(first | omega | (simp;omega))) only [go_sem,w64]) | refine as1 ?_ | fail)
  refine end12 17 90 (by decide) (.inr rfl) (by simp (disch:=(first | omega | (simp;omega))) only [go_sem,w64];rfl) (by simp (disch:=(first | omega | (simp;omega))) only [go_sem,w64];rfl) (r:=.st [.d (.int nv0),.buf 0 57 2 (xs0.map atomDV),.buf 1 3 1 (us0.map .int)]) (by simp (disch:=(first | omega | (simp;omega))) only [go_sem,w64,outA2,outAs2];exact .refl _) ⟨⟨_,_,_,hq0,hn0,rfl⟩,rfl⟩
 | true =>
  repeat' (first | refine sq ?_ | refine stp ?_ | refine blk_o (by decide) ?_ | (apply cb;(focus (simp (disch:=(first | omega | (simp;omega))) only [go_sem,w64];try exact rfl));refine cok ?_) | (refine rgS ?_;intro K hK) | (refine dA ?_;intro K hK) | (with_reducible refine hK _ ?_;clear hK K) | (refine stq ?_;simp (disch:=(first | omega | (simp;omega))) only [go_sem,w64]) | refine as1 ?_ | fail)
  (refine callL 1000000 (l1BelowA 4) ?_)
  rintro r os ⟨n,⟨hn1,_,hn2⟩,rfl,rfl⟩
  have hn3:=hn2 (by omega)
  have w1:IntKind.i64.wrap (1+n)=1+n:=w64 (by omega)
  refine ⟨by decide,?_⟩
  repeat' (first | refine sq ?_ | refine stp ?_ | refine blk_o (by decide) ?_ | (apply cb;(focus (simp (disch:=(first | omega | (simp;omega))) only [go_sem,w64,w1];try exact rfl));refine cok ?_) | (refine rgS ?_;intro K hK) | (refine dA ?_;intro K hK) | (with_reducible refine hK _ ?_;clear hK K) | (refine stq ?_;simp (disch:=(first | omega | (simp;omega))) only [go_sem,w64,w1]) | refine as1 ?_ | fail)
  (refine callL 1000000 (l1BelowA 4) ?_)
  rintro r os ⟨k0,⟨hk1,_,hk2⟩,rfl,rfl⟩
  have hk3:=hk2 (by omega)
  have w2:IntKind.i64.wrap (1+k0)=1+k0:=w64 (by omega)
  refine ⟨by decide,?_⟩
  repeat' (first | refine sq ?_ | refine stp ?_ | refine blk_o (by decide) ?_ | (apply cb;(focus (simp (disch:=(first | omega | (simp;omega))) only [go_sem,w64,w2];try exact rfl));refine cok ?_) | (refine rgS ?_;intro K hK) | (refine dA ?_;intro K hK) | (with_reducible refine hK _ ?_;clear hK K) | (refine stq ?_;simp (disch:=(first | omega | (simp;omega))) only [go_sem,w64,w2]) | refine as1 ?_ | fail)
  refine awp_weak (s':=mkS [(0,.ptr 1000000 0),(2,.ptr 2 0),(4,.ptr 4 0),(6,.ptr 6 0),(7,.d (.int (1+k0)))] [(2,[.d (.int 0),.nil,.nil]),(4,[.d (.int nv0),.buf 17 57 2 (xs0.map atomDV),.buf 90 3 1 (us0.map .int)]),(6,[.d (.int (1+n)),.nil,.nil]),(1000000,curL)]) (by exact sleA) ?_
  refine awp_nilbufO 6 1 62 57 2 (l:=[.d (.int (1+n)),.nil,.nil]) (by simp (disch:=(first | omega | (simp;omega))) only [go_sem,w64]) rfl ?_
  refine awp_loopw (fun m s=>∃ (k:Int) (ats:List AtomD),m=k.toNat∧0≤k∧(ats.length:Int)+k≤4∧NmOK ats∧s=mkS [(0,.ptr 1000000 0),(2,.ptr 2 0),(4,.ptr 4 0),(6,.ptr 6 0),(7,.d (.int k))] [(2,[.d (.int 0),.nil,.nil]),(4,[.d (.int nv0),.buf 17 57 2 (xs0.map atomDV),.buf 90 3 1 (us0.map .int)]),(6,[.d (.int (1+n)),.buf 62 57 2 (ats.map atomDV),.nil]),(1000000,curL)]) ?_ ?_
  ·refine ⟨_,_,?_,1+k0,[],rfl,by omega,by simp;omega,fun x hx=>(by cases hx),rfl⟩
   exact sleA
  ·rintro m s ⟨k,ats,rfl,hk,hal,hnm,rfl⟩
   repeat' (first | refine sq ?_ | refine stp ?_ | refine blk_o (by decide) ?_ | (apply cb;(focus (simp (disch:=(first | omega | (simp;omega))) only [go_sem,w64];try exact rfl));refine cok ?_) | (refine rgS ?_;intro K hK) | (refine dA ?_;intro K hK) | (with_reducible refine hK _ ?_;clear hK K) | (refine stq ?_;simp (disch:=(first | omega | (simp;omega))) only [go_sem,w64]) | refine as1 ?_ | fail)
   refine awp_if (p:=(0:Int)<k) (by simp (disch:=(first | omega | (simp;omega))) only [go_sem,w64]) ?_ ?_ <;> intro hc
   ·have wk:IntKind.i64.wrap (k - 1)=k - 1:=w64 (by omega)
    repeat' (first | refine sq ?_ | refine stp ?_ | refine blk_o (by decide) ?_ | (apply cb;(focus (simp (disch:=(first | omega | (simp;omega))) only [go_sem,w64];try exact rfl));refine cok ?_) | (refine rgS ?_;intro K hK) | (refine dA ?_;intro K hK) | (with_reducible refine hK _ ?_;clear hK K) | (refine stq ?_;simp (disch:=(first | omega | (simp;omega))) only [go_sem,w64]) | refine as1 ?_ | fail)
    (refine callL 1000000 (l1BelowA 5) ?_)
    rintro r os ⟨j,⟨hj1,_,hj2⟩,rfl,rfl⟩
    have hj3:=hj2 (by omega)
    obtain ⟨nb,hnb,g0⟩:=nms_at hj1 hj3
    have hjd:j.tdiv 4=0∨j.tdiv 4=1:=by rw [Int.tdiv_eq_ediv_of_nonneg hj1];omega
    have wd:IntKind.i64.wrap (j.tdiv 4)=j.tdiv 4:=w64 (by omega)
    have wd2:IntKind.i64.wrap (2+j.tdiv 4)=2+j.tdiv 4:=w64 (by omega)
    refine ⟨by decide,?_⟩
    repeat' (first | refine sq ?_ | refine stp ?_ | refine blk_o (by decide) ?_ | (apply cb;(focus (simp (disch:=(first | omega | (simp;omega))) only [go_sem,w64,g0,wd,wd2];try exact rfl));refine cok ?_) | (refine rgS ?_;intro K hK) | (refine dA ?_;intro K hK) | (with_reducible refine hK _ ?_;clear hK K) | (refine stq ?_;simp (disch:=(first | omega | (simp;omega))) only [go_sem,w64,g0,wd,wd2]) | refine as1 ?_ | fail)
    refine awp_nilbufO 9 1 56 3 1 (l:=[.d (.str (bs nb)),.nil]) (by simp (disch:=(first | omega | (simp;omega))) only [go_sem,w64]) rfl ?_
    refine awp_loopw (fun m s=>∃ (i:Int) (vs:List Int),m=i.toNat∧0≤i∧(vs.length:Int)+i≤3∧s=mkS [(0,.ptr 1000000 0),(2,.ptr 2 0),(4,.ptr 4 0),(6,.ptr 6 0),(7,.d (.int k)),(9,.ptr 9 0),(10,.d (.int i))] [(2,[.d (.int 0),.nil,.nil]),(4,[.d (.int nv0),.buf 17 57 2 (xs0.map atomDV),.buf 90 3 1 (us0.map .int)]),(6,[.d (.int (1+n)),.buf 62 57 2 (ats.map atomDV),.nil]),(9,[.d (.str (bs nb)),.buf 56 3 1 (vs.map .int)]),(1000000,curL)]) ?_ ?_
    ·refine ⟨_,_,?_,2+j.tdiv 4,[],rfl,by omega,by simp;omega,rfl⟩
     exact sleA
    ·rintro m s ⟨i,vs,rfl,hi,hvl,rfl⟩
     repeat' (first | refine sq ?_ | refine stp ?_ | refine blk_o (by decide) ?_ | (apply cb;(focus (simp (disch:=(first | omega | (simp;omega))) only [go_sem,w64];try exact rfl));refine cok ?_) | (refine rgS ?_;intro K hK) | (refine dA ?_;intro K hK) | (with_reducible refine hK _ ?_;clear hK K) | (refine stq ?_;simp (disch:=(first | omega | (simp;omega))) only [go_sem,w64]) | refine as1 ?_ | fail)
     refine awp_if (p:=(0:Int)<i) (by simp (disch:=(first | omega | (simp;omega))) only [go_sem,w64]) ?_ ?_ <;> intro hc2
     ·have wi:IntKind.i64.wrap (i - 1)=i - 1:=w64 (by omega)
      repeat' (first | refine sq ?_ | refine stp ?_ | refine blk_o (by decide) ?_ | (apply cb;(focus (simp (disch:=(first | omega | (simp;omega))) only [go_sem,w64];try exact rfl));refine cok ?_) | (refine rgS ?_;intro K hK) | (refine dA ?_;intro K hK) | (with_reducible refine hK _ ?_;clear hK K) | (refine stq ?_;simp (disch:=(first | omega | (simp;omega))) only [go_sem,w64]) | refine as1 ?_ | fail)
      (refine callDL (j:=0) 1000000 (l1BelowA (1+n)) ?_ ?_)
      ·exact ⟨_,_,0,⟨by omega,fun _=>rfl,fun h=>h⟩,rfl,rfl⟩
      rintro r os ⟨x,hx,rfl,rfl⟩
      refine ⟨[],rfl,by decide,?_⟩
      repeat' (first | refine sq ?_ | refine stp ?_ | refine blk_o (by decide) ?_ | (apply cb;(focus (simp (disch:=(first | omega | (simp;omega))) only [go_sem,w64,wi];try exact rfl));refine cok ?_) | (refine rgS ?_;intro K hK) | (refine dA ?_;intro K hK) | (with_reducible refine hK _ ?_;clear hK K) | (refine stq ?_;simp (disch:=(first | omega | (simp;omega))) only [go_sem,w64,wi]) | refine as1 ?_ | fail)
      refine ⟨(i - 1).toNat,_,by omega,?_,i - 1,vs ++ [x],rfl,by omega,by simp;omega,rfl⟩
      rw [List.map_append]
      exact sleA
     ·repeat' (first | refine sq ?_ | refine stp ?_ | refine blk_o (by decide) ?_ | (apply cb;(focus (simp (disch:=(first | omega | (simp;omega))) only [go_sem,w64];try exact rfl));refine cok ?_) | (with_reducible refine hK _ ?_;clear hK K) | (refine stq ?_;simp (disch:=(first | omega | (simp;omega))) only [go_sem,w64]) | refine as1 ?_ | fail)
      refine awp_weak (s':=mkS [(0,.ptr 1000000 0),(2,.ptr 2 0),(4,.ptr 4 0),(6,.ptr 6 0),(7,.d (.int k)),(9,.ptr 9 0)] [(2,[.d (.int 0),.nil,.nil]),(4,[.d (.int nv0),.buf 17 57 2 (xs0.map atomDV),.buf 90 3 1 (us0.map .int)]),(6,[.d (.int (1+n)),.buf 62 57 2 (ats.map atomDV),.nil]),(9,[.d (.str (bs nb)),.d (.sl 1 (vs.map .int))]),(1000000,curL)]) (by refine sle_mk ?_ ?_ <;> simp (disch:=(first | omega | (simp;omega))) only [go_sem,w64] ; (focus (repeat' (first | refine And.intro ?_ ?_ | with_reducible exact ALe.refl _)));exact ⟨ob_eq rfl,ob_eq rfl,ob_eq rfl,ob_les (.cons (.refl _) (.cons (.buf _ _ _ _) .nil)),ob_eq rfl⟩) ?_
      repeat' (first | refine sq ?_ | refine stp ?_ | refine blk_o (by decide) ?_ | (apply cb;(focus (simp (disch:=(first | omega | (simp;omega))) only [go_sem,w64,wk];try exact rfl));refine cok ?_) | (refine rgT ?_;intro K hK) | (refine dA ?_;intro K hK) | (with_reducible refine hK _ ?_;clear hK K) | (refine stq ?_;simp (disch:=(first | omega | (simp;omega))) only [go_sem,w64,wk]) | refine as1 ?_ | fail)
      refine ⟨(k - 1).toNat,_,by omega,?_,k - 1,ats ++ [⟨bs nb,vs⟩],rfl,by omega,by simp;omega,?_,rfl⟩
      ·rw [List.map_append]
       (refine sle_mk ?_ ?_ <;> simp (disch:=(first | omega | (simp;omega))) only [go_sem,w64,atomDV] <;> exact leafs)
      ·intro x hx
       rcases List.mem_append.1 hx with hx | hx
       ·exact hnm x hx
       ·rw [List.mem_singleton] at hx;subst hx;simp only [bs_size];omega
   ·repeat' (first | refine sq ?_ | refine stp ?_ | refine blk_o (by decide) ?_ | (apply cb;(focus (simp (disch:=(first | omega | (simp;omega))) only [go_sem,w64];try exact rfl));refine cok ?_) | (refine rgS ?_;intro K hK) | (refine dA ?_;intro K hK) | (with_reducible refine hK _ ?_;clear hK K) | (refine stq ?_;simp (disch:=(first | omega | (simp;omega))) only [go_sem,w64]) | refine as1 ?_ | fail)
    refine awp_weak (s':=mkS [(0,.ptr 1000000 0),(2,.ptr 2 0),(4,.ptr 4 0),(6,.ptr 6 0),(11,.d (.int 0))] [(2,[.d (.int 0),.nil,.nil]),(4,[.d (.int nv0),.buf 17 57 2 (xs0.map atomDV),.buf 90 3 1 (us0.map .int)]),(6,[.d (.int (1+n)),.buf 62 57 2 (ats.map atomDV),.nil]),(1000000,curL)]) (by exact sleA) ?_
    refine awp_nilbufO 6 2 73 3 1 (l:=[.d (.int (1+n)),.buf 62 57 2 (ats.map atomDV),.nil]) (by simp (disch:=(first | omega | (simp;omega))) only [go_sem,w64]) rfl ?_
    refine awp_loopw (fun m s=>∃ (v:Nat) (us:List Int),m=(1+n).toNat - v∧us.length≤v∧(v:Int)≤1+n∧s=mkS [(0,.ptr 1000000 0),(2,.ptr 2 0),(4,.ptr 4 0),(6,.ptr 6 0),(11,.d (.int (v:Nat)))] [(2,[.d (.int 0),.nil,.nil]),(4,[.d (.int nv0),.buf 17 57 2 (xs0.map atomDV),.buf 90 3 1 (us0.map .int)]),(6,[.d (.int (1+n)),.buf 62 57 2 (ats.map atomDV),.buf 73 3 1 (us.map .int)]),(1000000,curL)]) ?_ ?_
    ·refine ⟨_,_,?_,0,[],rfl,by simp,by omega,rfl⟩
     exact sleA
    ·rintro m s ⟨v,us,rfl,hul,hv,rfl⟩
     repeat' (first | refine sq ?_ | refine stp ?_ | refine blk_o (by decide) ?_ | (apply cb;(focus (simp (disch:=(first | omega | (simp;omega))) only [go_sem,w64];try exact rfl));refine cok ?_) | (refine rgS ?_;intro K hK) | (refine dA ?_;intro K hK) | (with_reducible refine hK _ ?_;clear hK K) | (refine stq ?_;simp (disch:=(first | omega | (simp;omega))) only [go_sem,w64]) | refine as1 ?_ | fail)
     refine awp_if (p:=(v:Int)<1+n) (by simp (disch:=(first | omega | (simp;omega))) only [go_sem,w64]) ?_ ?_ <;> intro hc2
     ·have wv:IntKind.i64.wrap ((v:Int)+1)=((v+1:Nat):Int):=by rw [w64 (by omega)];omega
      repeat' (first | refine sq ?_ | refine stp ?_ | refine blk_o (by decide) ?_ | (apply cb;(focus (simp (disch:=(first | omega | (simp;omega))) only [go_sem,w64];try exact rfl));refine cok ?_) | (refine rgS ?_;intro K hK) | (refine dA ?_;intro K hK) | (with_reducible refine hK _ ?_;clear hK K) | (refine stq ?_;simp (disch:=(first | omega | (simp;omega))) only [go_sem,w64]) | refine as1 ?_ | fail)
      (refine callL 1000000 (l1OnceA 2) ?_)
      rintro r os ⟨b,rfl,rfl⟩
      refine ⟨by decide,?_⟩
      cases b with
      | true =>
       repeat' (first | refine sq ?_ | refine stp ?_ | refine blk_o (by decide) ?_ | (apply cb;(focus (simp (disch:=(first | omega | (simp;omega))) only [go_sem,w64,wv];try exact rfl));refine cok ?_) | (refine rgS ?_;intro K hK) | (refine dA ?_;intro K hK) | (with_reducible refine hK _ ?_;clear hK K) | (refine stq ?_;simp (disch:=(first | omega | (simp;omega))) only [go_sem,w64,wv]) | refine as1 ?_ | fail)
       refine ⟨(1+n).toNat - (v+1),_,by omega,?_,v+1,(v:Int) :: us,rfl,by simp;omega,by omega,rfl⟩
       rw [List.map_cons]
       exact sleA
      | false =>
       repeat' (first | refine sq ?_ | refine stp ?_ | refine blk_o (by decide) ?_ | (apply cb;(focus (simp (disch:=(first | omega | (simp;omega))) only [go_sem,w64,wv];try exact rfl));refine cok ?_) | (refine rgS ?_;intro K hK) | (refine dA ?_;intro K hK) | (with_reducible refine hK _ ?_;clear hK K) | (refine stq ?_;simp (disch:=(first | omega | (simp;omega))) only [go_sem,w64,wv]) | refine as1 ?_ | fail)
       refine ⟨(1+n).toNat - (v+1),_,by omega,?_,v+1,us,rfl,by omega,by omega,rfl⟩
       exact sleA
     ·have hC:=specValidQA (1+n) ats us hnm
      have hQ:queryD (1+n) ats us=.agg [.int (1+n),.sl 2 (ats.map atomDV),.sl 1 (us.map .int)]:=rfl
      rw [hQ] at hC
      cases hq:qOK (1+n) ats us with
      | true =>
       rw [hq] at hC
       repeat' (first | refine sq ?_ | refine stp ?_ | refine blk_o (by decide) ?_ | (apply cb;(focus (simp (disch:=(first | omega | (simp;omega))) only [go_sem,w64];try exact rfl));refine cok ?_) | (refine rgS ?_;intro K hK) | (refine dA ?_;intro K hK) | (with_reducible refine hK _ ?_;clear hK K) | (refine stq ?_;simp (disch:=(first | omega | (simp;omega))) only [go_sem,w64]) | refine as1 ?_ | fail)
       (first | refine callA (hC) ?_ | refine callD (hC) ?_ | refine callE (hC) ?_ | refine callF (hC) ?_ ?_)
       repeat' (first | refine sq ?_ | refine stp ?_ | refine blk_o (by decide) ?_ | (apply cb;(focus (simp (disch:=(first | omega | (simp;omega))) only [go_sem,w64];try exact rfl));refine cok ?_) | (refine rgS ?_;intro K hK) | (refine dA ?_;intro K hK) | (with_reducible refine hK _ ?_;clear hK K) | (refine stq ?_;simp (disch:=(first | omega | (simp;omega))) only [go_sem,w64]) | refine as1 ?_ | fail)
       refine end12 62 73 (by decide) (.inr rfl) (by simp (disch:=(first | omega | (simp;omega))) only [go_sem,w64];rfl) (by simp (disch:=(first | omega | (simp;omega))) only [go_sem,w64];rfl) (r:=.st [.d (.int (1+n)),.buf 0 57 2 (ats.map atomDV),.buf 1 3 1 (us.map .int)]) (by simp (disch:=(first | omega | (simp;omega))) only [go_sem,w64,outA2,outAs2];exact .refl _) ⟨⟨_,_,_,hq,hnm,rfl⟩,rfl⟩
      | false =>
       rw [hq] at hC
       repeat' (first | refine sq ?_ | refine stp ?_ | refine blk_o (by decide) ?_ | (apply cb;(focus (simp (disch:=(first | omega | (simp;omega))) only [go_sem,w64];try exact rfl));refine cok ?_) | (refine rgS ?_;intro K hK) | (refine dA ?_;intro K hK) | (with_reducible refine hK _ ?_;clear hK K) | (refine stq ?_;simp (disch:=(first | omega | (simp;omega))) only [go_sem,w64]) | refine as1 ?_ | fail)
       (first | refine callA (hC) ?_ | refine callD (hC) ?_ | refine callE (hC) ?_ | refine callF (hC) ?_ ?_)
       repeat' (first | refine sq ?_ | refine stp ?_ | refine blk_o (by decide) ?_ | (apply cb;(focus (simp (disch:=(first | omega | (simp;omega))) only [go_sem,w64];try exact rfl));refine cok ?_) | (refine rgS ?_;intro K hK) | (refine dA ?_;intro K hK) | (with_reducible refine hK _ ?_;clear hK K) | (refine stq ?_;simp (disch:=(first | omega | (simp;omega))) only [go_sem,w64]) | refine as1 ?_ | fail)
       refine end12 17 90 (by decide) (.inr rfl) (by simp (disch:=(first | omega | (simp;omega))) only [go_sem,w64];rfl) (by simp (disch:=(first | omega | (simp;omega))) only [go_sem,w64];rfl) (r:=.st [.d (.int nv0),.buf 0 57 2 (xs0.map atomDV),.buf 1 3 1 (us0.map .int)]) (by simp (disch:=(first | omega | (simp;omega))) only [go_sem,w64,outA2,outAs2];exact .refl _) ⟨⟨_,_,_,hq0,hn0,rfl⟩,rfl⟩
end Go.Proofs.YtkohkoiegmcghaaDoor
namespace Go.Proofs.YtkohkoiegmcghaaDoor
set_option linter.unusedSimpArgs false
set_option linter.unusedVariables false
attribute [local go_sem ↓] reduceIte
attribute [local go_sem] Nat.reduceEqDiff Nat.reduceLT Nat.reduceAdd Nat.reduceLeDiff Nat.reduceMul Nat.reduceBEq Nat.reduceSub reduceCtorEq Int.reduceLE Int.reduceNeg Int.reduceLT
open Go.RowKit
structure QAny (nv:Int) (xs:List AtomD) (us:List Int):Prop where
 n0:0≤nv
 n1:nv≤6
 a0:1≤xs.length
 a1:xs.length≤5
 nm:NmOK xs
 at1:∀ x∈xs,x.vs.length≤5
 u1:us.length≤6
theorem qOK_any {nv:Int} {xs:List AtomD} {us:List Int} (h:qOK nv xs us=true) (hn:NmOK xs):QAny nv xs us∧nv≤5∧us.length≤5∧xs.length≤4∧1≤nv∧1≤(ax xs 0).vs.length:=by
 obtain ⟨⟨⟨v1,v2⟩,n1,n2⟩,hset,hat,_⟩:=qOK_out h
 have hus:us.length≤5:=by
  refine Decidable.byContradiction fun hh=>?_
  have:=qOK_long (nv:=nv) (xs:=xs) (us:=us) (by omega) (by omega)
  rw [h] at this;cases this
 refine ⟨⟨by omega,by omega,n1,by omega,hn,fun x hx=>?_,by omega⟩,v2,hus,n2,v1,(hat 0 (by omega)).2.1.1⟩
 obtain ⟨i,hi,e⟩:=List.getElem_of_mem hx
 have:=(hat i hi).2.1.2
 rwa [ax_lt hi,e] at this
theorem csims_atoms {e:Pk}:∀ {l:List AtomD} {m:List DV},CSims e (l.map atomDV) m→∃ l':List AtomD,m=l'.map atomDV∧l'.length=l.length∧∀ x∈l',∃ y∈l,x.nm=y.nm∧(x.vs.length=0∨x.vs.length=y.vs.length)
 | [],m,h=>by obtain rfl:=h;exact ⟨[],rfl,rfl,fun x hx=>(by cases hx)⟩
 | ⟨nm,vs⟩ :: l,m,h=>by
  obtain ⟨_,m',rfl,⟨g,rfl,hg⟩,h2⟩:=h
  obtain ⟨_,_,rfl,rfl,_,_,rfl,⟨r,rfl,hr⟩,rfl⟩:=hg
  obtain ⟨l',rfl,e1,h3⟩:=csims_atoms h2
  have h4:∃ r':List Int,r=r'.map .int∧(r'.length=0∨r'.length=vs.length):=by
   rcases hr with hr | ⟨_,rfl⟩
   ·obtain ⟨r',e2,e3⟩:=csims_ints hr;exact ⟨r',e2,.inr e3⟩
   ·exact ⟨[],rfl,.inl rfl⟩
  obtain ⟨r',rfl,e2⟩:=h4
  refine ⟨⟨nm,r'⟩ :: l',rfl,by simp [e1],fun y hy=>?_⟩
  rcases List.mem_cons.1 hy with rfl | hy
  ·exact ⟨⟨nm,vs⟩,List.mem_cons_self ..,rfl,e2⟩
  ·obtain ⟨z,hz,e3⟩:=h3 y hy
   exact ⟨z,List.mem_cons_of_mem _ hz,e3⟩
theorem QAny.sim {nv:Int} {xs xs':List AtomD} {us us':List Int} (h:QAny nv xs us) (hl:xs'.length=xs.length) (hx:∀ x∈xs',∃ y∈xs,x.nm=y.nm∧(x.vs.length=0∨x.vs.length=y.vs.length)) (hu:us'.length=us.length):QAny nv xs' us':=by
 refine ⟨h.n0,h.n1,by have:=h.a0;omega,by have:=h.a1;omega,fun x hx'=>?_,fun x hx'=>?_,by have:=h.u1;omega⟩
 ·obtain ⟨y,hy,e,_⟩:=hx x hx'
  rw [e];exact h.nm y hy
 ·obtain ⟨y,hy,_,e⟩:=hx x hx'
  have:=h.at1 y hy;omega
def anyQ (r:AV):Prop:=∃ (nv:Int) (xs:List AtomD) (us:List Int),QAny nv xs us∧r=.d (queryD nv xs us)
set_option maxHeartbeats 4000000 in
set_option maxRecDepth 100000 in
theorem l7AnyA:AFn 23 [.ptr 0 0] [curL] (fun r os=>anyQ r∧os=[curL]):=by
 refine afn_ofC (rv:=[.cell 2 27]) tyT_ok Tryd.func23 rfl (by decide +kernel) Tryd.ntmps23 rfl (by simp) nod_args nod_cur ?_
 repeat' (first | refine sq ?_ | refine stp ?_ | refine blk_o (by decide) ?_ | (apply cb;(focus (simp (disch:=(first | omega | (simp;omega))) only [go_sem,w64];try exact rfl));refine cok ?_) | (with_reducible refine hK _ ?_;clear hK K) | (refine stq ?_;simp (disch:=(first | omega | (simp;omega))) only [go_sem,w64]) | refine as1 ?_ | fail)
 refine awp_region' tyS_ok ?_;intro K hK
 repeat' (first | refine sq ?_ | refine stp ?_ | refine blk_o (by decide) ?_ | (apply cb;(focus (simp (disch:=(first | omega | (simp;omega))) only [go_sem,w64];try exact rfl));refine cok ?_) | (with_reducible refine hK _ ?_;clear hK K) | (refine stq ?_;simp (disch:=(first | omega | (simp;omega))) only [go_sem,w64]) | refine as1 ?_ | fail)
 refine awp_regionX (o:=?o) tyS_ok 1 ?h1 ?h2 ?h3
 case h1=>rfl
 case h2=>rfl
 intro K hK
 repeat' (first | refine sq ?_ | refine stp ?_ | refine blk_o (by decide) ?_ | (apply cb;(focus (simp (disch:=(first | omega | (simp;omega))) only [go_sem,w64];try exact rfl));refine cok ?_) | (with_reducible refine hK _ ?_;clear hK K) | (refine stq ?_;simp (disch:=(first | omega | (simp;omega))) only [go_sem,w64]) | refine as1 ?_ | fail)
 refine lcall2 [1000000] 5 90 rfl rfl rfl (by decide) (by decide) l7QueryA (by (repeat (first | exact ASubs.nil | refine ASubs.cons (by first | exact ASub.d _ | exact ASub.dd (dle_wh _ _) | exact ASub.dd (dle_rowsV _) | exact ASub.dd (dle_rowsW _) | exact ASub.dd (dle_relW _ _) | exact ASub.bufd _ _ (dle_rowsV _) | exact ASub.nil _ | exact ASub.nn | exact ASub.buf _ _ _ _ | exact ASub.loc _ | exact ASub.ptr _ _ _ rfl | exact ASub.arr _ _ _ _ rfl | exact ASub.any _ | exact ASub.std rfl (dle_refl _)) ?_));done) ⟨curL,curL,[],rfl,by simp (disch:=(first | omega | (simp;omega))) only [go_sem,w64],inerts_sub rfl,rfl⟩ (by simp) (by simp) ?_
 rintro r os ⟨⟨nv,xs,us,hq,hn,rfl⟩,rfl⟩
 refine ⟨by simp,?_⟩
 obtain ⟨hA,v5,u5,x4,v1,a1⟩:=qOK_any hq hn
 have x1:=hA.a0
 simp (disch:=(first | omega | (simp;omega))) only [go_sem,w64,renA2,renAs2,scr_tm,scr_ob]
 refine hK _ ?_
 clear hK
 repeat' (first | refine sq ?_ | refine stp ?_ | refine blk_o (by decide) ?_ | (apply cb;(focus (simp (disch:=(first | omega | (simp;omega))) only [go_sem,w64];try exact rfl));refine cok ?_) | (with_reducible refine hK _ ?_;clear hK K) | (refine stq ?_;simp (disch:=(first | omega | (simp;omega))) only [go_sem,w64]) | refine as1 ?_ | fail)
 refine awp_weak (s':=mkS [(0,.ptr 1000000 0),(2,.ptr 2 0),(3,.ptr 3 0)] [(2,[.d (.int 0),.nil,.nil]),(3,[.d (.int nv),.buf 5 57 2 (xs.map atomDV),.buf 90 3 1 (us.map .int)]),(1000000,curL)]) (by (refine sle_mk ?_ ?_ <;> simp (disch:=(first | omega | (simp;omega))) only [go_sem,w64,scr_tm,scr_ob] <;> exact leafs)) ?_
 repeat' (first | refine sq ?_ | refine stp ?_ | refine blk_o (by decide) ?_ | (apply cb;(focus (simp (disch:=(first | omega | (simp;omega))) only [go_sem,w64];try exact rfl));refine cok ?_) | (refine rgT ?_;intro K hK) | (refine dA ?_;intro K hK) | (with_reducible refine hK _ ?_;clear hK K) | (refine stq ?_;simp (disch:=(first | omega | (simp;omega))) only [go_sem,w64]) | refine as1 ?_ | fail)
 (refine callL 1000000 (l1BelowA 14) ?_)
 rintro r os ⟨k,hk,rfl,rfl⟩
 have wN:IntKind.i64.wrap (nv+1)=nv+1:=w64 (by omega)
 have hx0:0<xs.length:=by omega
 have r0:(xs.map atomDV).getD 0 (.bool false)=atomDV (ax xs 0):=getDA hx0
 have r1:((ax xs 0).vs.map DV.int).getD 0 (.bool false)=.int (ix (ax xs 0).vs 0):=getDI (by omega)
 refine ⟨by decide,?_⟩
 by_cases k0:k=0
 ·have e0:k=0↔True:=iff_of_true k0 trivial
  repeat' (first | refine sq ?_ | refine stp ?_ | refine blk_o (by decide) ?_ | (apply cb;(focus (simp (disch:=(first | omega | (simp;omega))) only [go_sem,w64,e0,wN];try exact rfl));refine cok ?_) | (refine rgT ?_;intro K hK) | (refine dA ?_;intro K hK) | (with_reducible refine hK _ ?_;clear hK K) | (refine stq ?_;simp (disch:=(first | omega | (simp;omega))) only [go_sem,w64,e0,wN]) | refine as1 ?_ | fail)
  (refine callL 1000000 (l1PickIntM [0,6,nv+1] (by simp)) ?_)
  rintro r os ⟨x,hx,rfl,rfl⟩
  have hA':QAny x xs us:=by
   simp only [List.mem_cons,List.not_mem_nil,or_false] at hx
   exact ⟨by omega,by omega,hA.a0,hA.a1,hA.nm,hA.at1,hA.u1⟩
  refine ⟨by decide,?_⟩
  repeat' (first | refine sq ?_ | refine stp ?_ | refine blk_o (by decide) ?_ | (apply cb;(focus (simp (disch:=(first | omega | (simp;omega))) only [go_sem,w64];try exact rfl));refine cok ?_) | (refine rgT ?_;intro K hK) | (refine dA ?_;intro K hK) | (with_reducible refine hK _ ?_;clear hK K) | (refine stq ?_;simp (disch:=(first | omega | (simp;omega))) only [go_sem,w64]) | refine as1 ?_ | fail)
  refine end1 0 (.inr rfl) (by simp (disch:=(first | omega | (simp;omega))) only [go_sem,w64];rfl) (by simp (disch:=(first | omega | (simp;omega))) only [go_sem,w64];rfl) (r:=.d (queryD x xs us)) (by simp (disch:=(first | omega | (simp;omega))) only [go_sem,w64,queryD,List.map_append];exact .refl _) ⟨⟨_,_,_,hA',rfl⟩,rfl⟩
 have e0:k=0↔False:=iff_of_false k0 id
 by_cases k1:k=1
 ·have e1:k=1↔True:=iff_of_true k1 trivial
  repeat' (first | refine sq ?_ | refine stp ?_ | refine blk_o (by decide) ?_ | (apply cb;(focus (simp (disch:=(first | omega | (simp;omega))) only [go_sem,w64,e0,e1];try exact rfl));refine cok ?_) | (refine rgT ?_;intro K hK) | (refine dA ?_;intro K hK) | (with_reducible refine hK _ ?_;clear hK K) | (refine stq ?_;simp (disch:=(first | omega | (simp;omega))) only [go_sem,w64,e0,e1]) | refine as1 ?_ | fail)
  (refine callDL (j:=0) 1000000 (l1PickS [[],[119],[114]] (by simp) (by simp)) ?_ ?_)
  ·exact ⟨_,_,[],by simp,rfl,rfl⟩
  rintro r os ⟨x,hx,rfl,rfl⟩
  have hA':QAny nv (xs ++ [⟨bs x,[0]⟩]) us:=by
   refine ⟨hA.n0,hA.n1,by simp,by simp;omega,fun y hy=>?_,fun y hy=>?_,hA.u1⟩
   ·rcases List.mem_append.1 hy with hy | hy
    ·exact hA.nm y hy
    ·rw [List.mem_singleton] at hy;subst hy
     simp only [bs_size]
     simp only [List.mem_cons,List.not_mem_nil,or_false] at hx
     rcases hx with rfl | rfl | rfl <;> simp
   ·rcases List.mem_append.1 hy with hy | hy
    ·exact hA.at1 y hy
    ·rw [List.mem_singleton] at hy;subst hy;simp
  refine ⟨[],rfl,by decide,?_⟩
  repeat' (first | refine sq ?_ | refine stp ?_ | refine blk_o (by decide) ?_ | (apply cb;(focus (simp (disch:=(first | omega | (simp;omega))) only [go_sem,w64,e0,e1];try exact rfl));refine cok ?_) | (refine rgT ?_;intro K hK) | (refine dA ?_;intro K hK) | (with_reducible refine hK _ ?_;clear hK K) | (refine stq ?_;simp (disch:=(first | omega | (simp;omega))) only [go_sem,w64,e0,e1]) | refine as1 ?_ | fail)
  refine end1 0 (.inr rfl) (by simp (disch:=(first | omega | (simp;omega))) only [go_sem,w64];rfl) (by simp (disch:=(first | omega | (simp;omega))) only [go_sem,w64];rfl) (r:=.d (queryD nv (xs ++ [⟨bs x,[0]⟩]) us)) (by simp (disch:=(first | omega | (simp;omega))) only [go_sem,w64,queryD,List.map_append,List.map_cons,List.map_nil,atomDV,intsD];exact .refl _) ⟨⟨_,_,_,hA',rfl⟩,rfl⟩
 have e1:k=1↔False:=iff_of_false k1 id
 by_cases k2:k=2
 ·have e2:k=2↔True:=iff_of_true k2 trivial
  repeat' (first | refine sq ?_ | refine stp ?_ | refine blk_o (by decide) ?_ | (apply cb;(focus (simp (disch:=(first | omega | (simp;omega))) only [go_sem,w64,e0,e1,e2];try exact rfl));refine cok ?_) | (refine rgT ?_;intro K hK) | (refine dA ?_;intro K hK) | (with_reducible refine hK _ ?_;clear hK K) | (refine stq ?_;simp (disch:=(first | omega | (simp;omega))) only [go_sem,w64,e0,e1,e2]) | refine as1 ?_ | fail)
  (refine callDL (j:=0) 1000000 (l1BelowA 6) ?_ ?_)
  ·exact ⟨_,_,0,⟨by omega,fun _=>rfl,fun h=>h⟩,rfl,rfl⟩
  rintro r os ⟨x,hx,rfl,rfl⟩
  have hA':QAny nv xs (us ++ [x - 1]):=⟨hA.n0,hA.n1,hA.a0,hA.a1,hA.nm,hA.at1,by simp;omega⟩
  refine ⟨[],rfl,by decide,?_⟩
  repeat' (first | refine sq ?_ | refine stp ?_ | refine blk_o (by decide) ?_ | (apply cb;(focus (simp (disch:=(first | omega | (simp;omega))) only [go_sem,w64,e0,e1,e2];try exact rfl));refine cok ?_) | (refine rgT ?_;intro K hK) | (refine dA ?_;intro K hK) | (with_reducible refine hK _ ?_;clear hK K) | (refine stq ?_;simp (disch:=(first | omega | (simp;omega))) only [go_sem,w64,e0,e1,e2]) | refine as1 ?_ | fail)
  refine end1 0 (.inr rfl) (by simp (disch:=(first | omega | (simp;omega))) only [go_sem,w64];rfl) (by simp (disch:=(first | omega | (simp;omega))) only [go_sem,w64];rfl) (r:=.d (queryD nv xs (us ++ [x - 1]))) (by simp (disch:=(first | omega | (simp;omega))) only [go_sem,w64,queryD,List.map_append,List.map_cons,List.map_nil,atomDV,intsD];exact .refl _) ⟨⟨_,_,_,hA',rfl⟩,rfl⟩
 have e2:k=2↔False:=iff_of_false k2 id
 by_cases k3:k=3
 ·have e3:k=3↔True:=iff_of_true k3 trivial
  repeat' (first | refine sq ?_ | refine stp ?_ | refine blk_o (by decide) ?_ | (apply cb;(focus (simp (disch:=(first | omega | (simp;omega))) only [go_sem,w64];try exact rfl));refine cok ?_) | (with_reducible refine hK _ ?_;clear hK K) | (refine stq ?_;simp (disch:=(first | omega | (simp;omega))) only [go_sem,w64]) | refine as1 ?_ | fail)
  refine awp_region' tyT_ok ?_;intro K hK
  repeat' (first | refine sq ?_ | refine stp ?_ | refine blk_o (by decide) ?_ | (apply cb;(focus (simp (disch:=(first | omega | (simp;omega))) only [go_sem,w64,e0,e1,e2,e3];try exact rfl));refine cok ?_) | (with_reducible refine hK _ ?_;clear hK K) | (refine stq ?_;simp (disch:=(first | omega | (simp;omega))) only [go_sem,w64,e0,e1,e2,e3]) | refine as1 ?_ | fail)
  refine awp_region' tyT_ok ?_;intro K hK
  repeat' (first | refine sq ?_ | refine stp ?_ | refine blk_o (by decide) ?_ | (apply cb;(focus (simp (disch:=(first | omega | (simp;omega))) only [go_sem,w64,e0,e1,e2,e3];try exact rfl));refine cok ?_) | (with_reducible refine hK _ ?_;clear hK K) | (refine stq ?_;simp (disch:=(first | omega | (simp;omega))) only [go_sem,w64,e0,e1,e2,e3]) | refine as1 ?_ | fail)
  refine awp_region' tyT_ok ?_;intro K hK
  repeat' (first | refine sq ?_ | refine stp ?_ | refine blk_o (by decide) ?_ | (apply cb;(focus (simp (disch:=(first | omega | (simp;omega))) only [go_sem,w64,e0,e1,e2,e3];try exact rfl));refine cok ?_) | (with_reducible refine hK _ ?_;clear hK K) | (refine stq ?_;simp (disch:=(first | omega | (simp;omega))) only [go_sem,w64,e0,e1,e2,e3]) | refine as1 ?_ | fail)
  refine awp_region' tyT_ok ?_;intro K hK
  repeat' (first | refine sq ?_ | refine stp ?_ | refine blk_o (by decide) ?_ | (apply cb;(focus (simp (disch:=(first | omega | (simp;omega))) only [go_sem,w64,e0,e1,e2,e3];try exact rfl));refine cok ?_) | (with_reducible refine hK _ ?_;clear hK K) | (refine stq ?_;simp (disch:=(first | omega | (simp;omega))) only [go_sem,w64,e0,e1,e2,e3]) | refine as1 ?_ | fail)
  refine awp_regionX (o:=?p3) tyT_ok 4 ?q1 ?q2 ?q3
  case q1=>rfl
  case q2=>rfl
  intro K hK
  repeat' (first | refine sq ?_ | refine stp ?_ | refine blk_o (by decide) ?_ | (apply cb;(focus (simp (disch:=(first | omega | (simp;omega))) only [go_sem,w64,r0,atomDV,Int.toNat_zero];try exact rfl));refine cok ?_) | (with_reducible refine hK _ ?_;clear hK K) | (refine stq ?_;simp (disch:=(first | omega | (simp;omega))) only [go_sem,w64,r0,atomDV,Int.toNat_zero]) | refine as1 ?_ | fail)
  refine LStep.weak (s0:=mkS [(2,.ptr 2 0),(3,.ptr 3 0),(44,.loc [intsD (ax xs 0).vs])] [(2,[.d (.int 0),.nil,.nil]),(3,[.d (.int nv),.buf 5 57 2 (xs.map atomDV),.buf 90 3 1 (us.map .int)]),(1000000,curL)]) (by (refine sle_mk ?_ ?_ <;> simp (disch:=(first | omega | (simp;omega))) only [go_sem,w64,r0,atomDV,intsD] <;> exact leafs)) ?_
  refine lstep_poke tyT_ok ⟨true,fun _=>True⟩ (T:=25) (p:=.tmp 44) (x:=.const (.slice none 0 0)) (y:=.nl) rfl rfl rfl rfl rfl rfl rfl (by decide) (by exact Nat.le_refl 1) rfl (fun _ _=>trivial) ?_
  intro s' hs'
  obtain ⟨l2,ho2,_,_,rfl,⟨_,rfl,rfl⟩,_,_,rfl,rfl,_,_,rfl,rfl,rfl⟩:=ssim_ob 2 hs' rfl
  obtain ⟨l3,ho3,_,_,rfl,⟨_,rfl,rfl⟩,_,_,rfl,⟨rr,rfl,hrr⟩,_,_,rfl,⟨ru,rfl,hru⟩,rfl⟩:=ssim_ob 3 hs' rfl
  obtain ⟨lc,hoc,hlc⟩:=ssim_ob 1000000 hs' rfl
  obtain ⟨xs',rfl,hl',hr'⟩:=csims_atoms hrr
  obtain ⟨us',rfl,hu'⟩:=csims_ints hru
  have t2:s'.tm 2=.ptr 2 0:=ssim_tm 2 hs' rfl
  have t3:s'.tm 3=.ptr 3 0:=ssim_tm 3 hs' rfl
  have hA':=hA.sim hl' hr' hu'
  refine hK _ ?_
  clear hK
  repeat' (first | refine sq ?_ | refine stp ?_ | refine blk_o (by decide) ?_ | (apply cb;(focus (simp (disch:=(first | omega | (simp;omega))) only [go_sem,w64];try exact rfl));refine cok ?_) | (with_reducible refine hK _ ?_;clear hK K) | (refine stq ?_;simp (disch:=(first | omega | (simp;omega))) only [go_sem,w64]) | refine as1 ?_ | fail)
  refine awp_weak (s':=mkS [(2,.ptr 2 0),(3,.ptr 3 0)] [(2,[.d (.int 0),.nil,.nil]),(3,[.d (.int nv),.buf 5 57 2 (xs'.map atomDV),.buf 90 3 1 (us'.map .int)]),(1000000,curL)]) (sle_mk ⟨t2 ▸ .refl _,t3 ▸ .refl _,trivial⟩ ⟨⟨_,ho2,ales_eq rfl⟩,⟨_,ho3,ales_eq rfl⟩,⟨_,hoc,cur_sim hlc⟩,trivial⟩) ?_
  repeat' (first | refine sq ?_ | refine stp ?_ | refine blk_o (by decide) ?_ | (apply cb;(focus (simp (disch:=(first | omega | (simp;omega))) only [go_sem,w64];try exact rfl));refine cok ?_) | (refine rgT ?_;intro K hK) | (refine dA ?_;intro K hK) | (with_reducible refine hK _ ?_;clear hK K) | (refine stq ?_;simp (disch:=(first | omega | (simp;omega))) only [go_sem,w64]) | refine as1 ?_ | fail)
  refine end1 0 (.inr rfl) (by simp (disch:=(first | omega | (simp;omega))) only [go_sem,w64];rfl) (by simp (disch:=(first | omega | (simp;omega))) only [go_sem,w64];rfl) (r:=.d (queryD nv xs' us')) (by simp (disch:=(first | omega | (simp;omega))) only [go_sem,w64,queryD,intsD];exact .refl _) ⟨⟨_,_,_,hA',rfl⟩,rfl⟩
 have e3:k=3↔False:=iff_of_false k3 id
 by_cases k4:k=4
 ·have e4:k=4↔True:=iff_of_true k4 trivial
  repeat' (first | refine sq ?_ | refine stp ?_ | refine blk_o (by decide) ?_ | (apply cb;(focus (simp (disch:=(first | omega | (simp;omega))) only [go_sem,w64,e0,e1,e2,e3,e4];try exact rfl));refine cok ?_) | (refine rgT ?_;intro K hK) | (with_reducible refine hK _ ?_;clear hK K) | (refine stq ?_;simp (disch:=(first | omega | (simp;omega))) only [go_sem,w64,e0,e1,e2,e3,e4]) | refine as1 ?_ | fail)
  refine awp_drawL (o:=?p4) tyT_ok (by kernel_rfl) 9 ?r1 ?r2 ?r3 ?r4 ?r5 ?r6
  case r2=>rfl
  case r1=>rfl
  case r3=>rfl
  case r4=>kernel_rfl
  case r5=>kernel_rfl
  intro K hK
  repeat' (first | refine sq ?_ | refine stp ?_ | refine blk_o (by decide) ?_ | (apply cb;(focus (simp (disch:=(first | omega | (simp;omega))) only [go_sem,w64,r0,r1,atomDV,Int.toNat_zero];try exact rfl));refine cok ?_) | (with_reducible refine hK _ ?_;clear hK K) | (refine stq ?_;simp (disch:=(first | omega | (simp;omega))) only [go_sem,w64,r0,r1,atomDV,Int.toNat_zero]) | refine as1 ?_ | fail)
  (refine callDL (j:=0) 1000000 (l1PickIntM [-1,5] (by simp)) ?_ ?_)
  ·exact ⟨_,_,-1,by simp,rfl,rfl⟩
  rintro r os ⟨x,hx,rfl,rfl⟩
  refine ⟨[],rfl,by decide,?_⟩
  repeat' (first | refine sq ?_ | refine stp ?_ | refine blk_o (by decide) ?_ | (apply cb;(focus (simp (disch:=(first | omega | (simp;omega))) only [go_sem,w64,r0,r1,atomDV,Int.toNat_zero];try exact rfl));refine cok ?_) | (with_reducible refine hK _ ?_;clear hK K) | (refine stq ?_;simp (disch:=(first | omega | (simp;omega))) only [go_sem,w64,r0,r1,atomDV,Int.toNat_zero]) | refine as1 ?_ | fail)
  refine LStep.weak (s0:=mkS [(2,.ptr 2 0),(3,.ptr 3 0),(54,.d (.int x)),(55,.loc [.int (ix (ax xs 0).vs 0)])] [(2,[.d (.int 0),.nil,.nil]),(3,[.d (.int nv),.buf 5 57 2 (xs.map atomDV),.buf 90 3 1 (us.map .int)]),(1000000,curL)]) (by (refine sle_mk ?_ ?_ <;> simp (disch:=(first | omega | (simp;omega))) only [go_sem,w64,r0,r1,atomDV,intsD] <;> exact leafs)) ?_
  refine lstep_poke tyT_ok ⟨false,fun _=>True⟩ (T:=3) (p:=.tmp 55) (x:=.tmp 54) (y:=.int x) rfl rfl rfl rfl rfl rfl rfl (by decide) (by exact Nat.le_refl 1) rfl (fun _ _=>trivial) ?_
  intro s' hs'
  obtain ⟨l2,ho2,_,_,rfl,⟨_,rfl,rfl⟩,_,_,rfl,rfl,_,_,rfl,rfl,rfl⟩:=ssim_ob 2 hs' rfl
  obtain ⟨l3,ho3,_,_,rfl,⟨_,rfl,rfl⟩,_,_,rfl,⟨rr,rfl,hrr⟩,_,_,rfl,⟨ru,rfl,hru⟩,rfl⟩:=ssim_ob 3 hs' rfl
  obtain ⟨lc,hoc,hlc⟩:=ssim_ob 1000000 hs' rfl
  obtain ⟨xs',rfl,hl',hr'⟩:=csims_atoms hrr
  obtain ⟨us',rfl,hu'⟩:=csims_ints hru
  have t2:s'.tm 2=.ptr 2 0:=ssim_tm 2 hs' rfl
  have t3:s'.tm 3=.ptr 3 0:=ssim_tm 3 hs' rfl
  have hA':=hA.sim hl' hr' hu'
  refine hK _ ?_
  clear hK
  repeat' (first | refine sq ?_ | refine stp ?_ | refine blk_o (by decide) ?_ | (apply cb;(focus (simp (disch:=(first | omega | (simp;omega))) only [go_sem,w64];try exact rfl));refine cok ?_) | (with_reducible refine hK _ ?_;clear hK K) | (refine stq ?_;simp (disch:=(first | omega | (simp;omega))) only [go_sem,w64]) | refine as1 ?_ | fail)
  refine awp_weak (s':=mkS [(2,.ptr 2 0),(3,.ptr 3 0)] [(2,[.d (.int 0),.nil,.nil]),(3,[.d (.int nv),.buf 5 57 2 (xs'.map atomDV),.buf 90 3 1 (us'.map .int)]),(1000000,curL)]) (sle_mk ⟨t2 ▸ .refl _,t3 ▸ .refl _,trivial⟩ ⟨⟨_,ho2,ales_eq rfl⟩,⟨_,ho3,ales_eq rfl⟩,⟨_,hoc,cur_sim hlc⟩,trivial⟩) ?_
  repeat' (first | refine sq ?_ | refine stp ?_ | refine blk_o (by decide) ?_ | (apply cb;(focus (simp (disch:=(first | omega | (simp;omega))) only [go_sem,w64];try exact rfl));refine cok ?_) | (refine rgT ?_;intro K hK) | (refine dA ?_;intro K hK) | (with_reducible refine hK _ ?_;clear hK K) | (refine stq ?_;simp (disch:=(first | omega | (simp;omega))) only [go_sem,w64]) | refine as1 ?_ | fail)
  refine end1 0 (.inr rfl) (by simp (disch:=(first | omega | (simp;omega))) only [go_sem,w64];rfl) (by simp (disch:=(first | omega | (simp;omega))) only [go_sem,w64];rfl) (r:=.d (queryD nv xs' us')) (by simp (disch:=(first | omega | (simp;omega))) only [go_sem,w64,queryD,intsD];exact .refl _) ⟨⟨_,_,_,hA',rfl⟩,rfl⟩
 have e4:k=4↔False:=iff_of_false k4 id
 repeat' (first | refine sq ?_ | refine stp ?_ | refine blk_o (by decide) ?_ | (apply cb;(focus (simp (disch:=(first | omega | (simp;omega))) only [go_sem,w64,e0,e1,e2,e3,e4];try exact rfl));refine cok ?_) | (refine rgT ?_;intro K hK) | (refine dA ?_;intro K hK) | (with_reducible refine hK _ ?_;clear hK K) | (refine stq ?_;simp (disch:=(first | omega | (simp;omega))) only [go_sem,w64,e0,e1,e2,e3,e4]) | refine as1 ?_ | fail)
 refine end1 0 (.inr rfl) (by simp (disch:=(first | omega | (simp;omega))) only [go_sem,w64];rfl) (by simp (disch:=(first | omega | (simp;omega))) only [go_sem,w64];rfl) (r:=.d (queryD nv xs us)) (by simp (disch:=(first | omega | (simp;omega))) only [go_sem,w64,queryD,List.map_append];exact .refl _) ⟨⟨_,_,_,hA,rfl⟩,rfl⟩
end Go.Proofs.YtkohkoiegmcghaaDoor
namespace Go.Proofs.YtkohkoiegmcghaaDoor
set_option linter.unusedSimpArgs false
set_option linter.unusedVariables false
open Go.ChangeShapes Go.WideShapes Go.ChangeAt Go.RowKit Go.Deep
theorem own:ownKnob Tryd.prog.godebug=none:=by kernel_rfl
theorem laidOut:laidOutB Tryd.prog=true:=by kernel_rfl
def ReadsBy {α:Type} (R:Rep α) (t:TypeId):Prop :=
 ∀ {H:Type} (enc:TypeId×Value→H) (W:World) (fuel:Nat) (cs:List Value) (x:DataW H×List MemPlace),DataW.trod enc Tryd.prog W 0 (fun _=>true) true fuel t cs=some x→∃ y,R false 0 W.heap.size W cs y
theorem cells_at {w:World} {base:Nat} {a:Addr} {k:Nat} {cs:List Value} (h:w.cells? base a k=some cs):cs.length=k∧∀ j,j<k→w.cell? (a.add j)=some (cs.getD j undef):=by
 obtain ⟨_,hlen,hc⟩:=World.cells?_some h
 exact ⟨hlen,fun j hj=>by
  have:=hc j (by omega)
  simpa [List.getD,List.getElem?_eq_getElem (show j<cs.length by omega)] using this⟩
theorem reads_slice {α:Type} {R:Rep α} {t e k:Nat} (ht:Tryd.prog.underlying t=some (.slice e)) (hk:Tryd.prog.cellsOf e=k) (hk0:0<k) (hR:ReadsBy R e) :
 ∀ {H:Type} (enc:TypeId×Value→H) (W:World) (fuel:Nat) (cs:List Value) (x:DataW H×List MemPlace),DataW.trod enc Tryd.prog W 0 (fun _=>true) true fuel t cs=some x →
  ∃ a n c xs,cs=[.slice a n c]∧SlA k R false 0 W.heap.size W a n c xs:=by
 intro H enc W fuel cs x h
 rcases open_slice ht h with ⟨hcs,_⟩ | ⟨a,len,cap,m,n,D,Pl,rfl,_,hl,hm,hmm,_,hx⟩
 ·exact ⟨none,0,0,[],hcs,rfl,Nat.le_refl _,by simp [maxLen],fun h=>by omega,fun _=>rfl⟩
 ·simp only [if_true] at hmm
  subst hmm
  rw [hk] at hx
  have each:∀ i,i<m→∃ y:List Value×α,y.1.length=k∧R false 0 W.heap.size W y.1 y.2∧∀ j,j<k→W.cell? ((a.add (i*k)).add j)=some (y.1.getD j undef):=by
   intro i hi
   obtain ⟨cs',h1,h2⟩:=hx i hi
   obtain ⟨y,hy⟩:=hR enc W n cs' _ h2
   obtain ⟨g1,g2⟩:=cells_at h1
   exact ⟨(cs',y),g1,hy,g2⟩
  refine ⟨some a,len,m,?_⟩
  by_cases hm0:m=0
  ·refine ⟨[],rfl,?_,hl,hm,fun h=>by omega,fun h=>(by cases h)⟩
   simp;omega
  ·haveI:Inhabited α:=⟨(Classical.choose (each 0 (by omega))).2⟩
   obtain ⟨y,hy⟩:=choose_lt each
   obtain ⟨b,off,spot⟩:=a
   have h1:=(hy 0 (by omega)).2.2 0 hk0
   have hspot:spot=none:=by
    cases spot with
    | none=>rfl
    | some s=>simp [Addr.add,World.cell?] at h1;split at h1 <;> simp at h1
   subst hspot
   have hblk:=World.block_lt_of_cell? W _ h1
   refine ⟨(List.range len).map fun i=>(y i).2,rfl,by simp,hl,hm,fun hn=>⟨b,off,rfl,Nat.zero_le _,by simpa [Addr.add] using hblk,fun i hi=>?_⟩,fun h=>(by cases h)⟩
   obtain ⟨g1,g2,g3⟩:=hy i (by omega)
   refine ⟨(y i).1,(y i).2,g1,by simp [hi],g2,fun j hj=>⟨?_,fun h=>(by cases h)⟩⟩
   have:=g3 j hj
   rwa [Addr.add_lit,Addr.add_lit] at this
end Go.Proofs.YtkohkoiegmcghaaDoor
namespace Go.Proofs.YtkohkoiegmcghaaDoor
set_option linter.unusedSimpArgs false
set_option linter.unusedVariables false
open Go.ChangeShapes Go.WideShapes Go.ChangeAt Go.RowKit Go.Deep
def byteR:Rep Int:=fun _ _ _ _ cs x=>cs=[.int .u8 x]∧0≤x∧x≤255
abbrev BytesA:=SlA 1 byteR
theorem u8_of_wf {x:Int} (h:(Lit.int .u8 x).wf=true):0≤x∧x≤255:=by
 simp [Lit.wf,IntKind.min,IntKind.max,IntKind.bits,IntKind.signed] at h
 omega
theorem cellsU8:Tryd.prog.cellsOf 5=1:=by kernel_rfl
theorem reads_byte:ReadsBy byteR 5:=by
 intro H enc W fuel cs x h
 obtain ⟨n,rfl,_,hw⟩:=DataW.trod_int Tryd.underlying5 h
 exact ⟨n,rfl,u8_of_wf hw⟩
theorem reads_bytes {H:Type} (enc:TypeId×Value→H) (W:World) (fuel:Nat) (cs:List Value) (x:DataW H×List MemPlace) (h:DataW.trod enc Tryd.prog W 0 (fun _=>true) true fuel 22 cs=some x) :
 ∃ a n c xs,cs=[.slice a n c]∧BytesA false 0 W.heap.size W a n c xs:=reads_slice Tryd.underlying22 cellsU8 (by omega) reads_byte enc W fuel cs x h
theorem bytes_cx {C:Nat→Nat→Prop} {fz:Bool} {lo hi:Nat} {w:World} {a:Option Addr} {n c:Nat} {xs:List Int} (h:BytesA fz lo hi w a n c xs) (hC:∀ b i,lo≤b→b<hi→C b i):CX C w (.sl 1 (xs.map .byte)) [.slice a n c]:=by
 have h1:=h.len
 obtain ⟨_,h2,h3,h4,h5⟩:=h
 have key:0<n→∃ b off,a=some ⟨b,off,none⟩∧lo≤b∧b<hi∧∀ i (hi':i<xs.length),(0≤xs[i]∧xs[i]≤255)∧w.cell? ⟨b,off+i,none⟩=some (.int .u8 xs[i]):=fun hn=>by
  obtain ⟨b,off,ha,hl,hb,hc⟩:=h4 hn
  refine ⟨b,off,ha,hl,hb,fun i hi'=>?_⟩
  obtain ⟨cs,x,g1,g2,⟨rfl,g3⟩,g4⟩:=hc i (by omega)
  rw [List.getElem?_eq_getElem hi'] at g2
  cases g2
  exact ⟨g3,by simpa using (g4 0 (by omega)).1⟩
 refine ⟨a,n,c,xs.map (fun x=>Value.int .u8 x),rfl,by simpa using h1,CXk.singles.2 ⟨by simp,fun i x hx=>?_⟩,by simp [h1],h2,h3,h5,?_,fun hn=>?_⟩
 ·rw [List.getElem?_map] at hx
  cases e:xs[i]? with
  | none=>rw [e] at hx;cases hx
  | some y =>
   rw [e] at hx;cases hx
   have hi':=(List.getElem?_eq_some_iff.1 e).1
   obtain ⟨b,off,_,_,_,hk⟩:=key (by omega)
   have hy:xs[i]=y:=(List.getElem?_eq_some_iff.1 e).2
   have:=(hk i hi').1
   rw [hy] at this
   exact ⟨.int .u8 y,by rw [List.getElem?_map,e];rfl,rfl,this⟩
 ·intro u hu
  obtain ⟨y,_,rfl⟩:=List.mem_map.1 hu
  rfl
 ·obtain ⟨b,off,ha,hl,hb,hk⟩:=key hn
  refine ⟨b,off,ha,fun i u hu=>⟨hC _ _ hl hb,?_⟩⟩
  rw [List.getElem?_map] at hu
  cases e:xs[i]? with
  | none=>rw [e] at hu;cases hu
  | some y =>
   rw [e] at hu;cases hu
   obtain ⟨hi',hy⟩:=List.getElem?_eq_some_iff.1 e
   have:=(hk i hi').2
   rw [hy] at this
   exact this
end Go.Proofs.YtkohkoiegmcghaaDoor
