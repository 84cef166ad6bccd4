/- Lemmas for the proof of FnCoverDuality, part 18 of 26: no condition of their own. -/
import Derived.Test.YtkohkoiegmcghaaDoorJ17
import Derived.Test.YtkohkoiegmcghaaDoorJ6
import Derived.Test.YtkohkoiegmcghaaDoorJ12
namespace Go.Proofs.YtkohkoiegmcghaaDoor
set_option linter.unusedSimpArgs false
set_option linter.unusedVariables false
attribute [local go_sem ↓] reduceIte
attribute [local go_sem] Nat.reduceEqDiff Nat.reduceLT Nat.reduceAdd Nat.reduceLeDiff Nat.reduceMul Nat.reduceBEq Nat.reduceSub reduceCtorEq Int.reduceLE Int.reduceNeg Int.reduceLT
open Go.RowKit
theorem take_mapI {α β:Type} (f:α→β) (l:List α) (d:α) {i:Nat} (h:i<l.length):(l.take (i+1)).map f=(l.take i).map f ++ [f (l.getD i d)]:=by
 rw [List.take_add_one,List.getElem?_eq_getElem h,List.map_append]
 simp [List.getD,h]
def trQ (A:List (List RatD)) (n:Nat):List (List RatD):=(List.range n).map fun k=>A.map fun r=>qx r k
theorem trQ_succ (A:List (List RatD)) (n:Nat):trQ A (n+1)=trQ A n ++ [A.map fun r=>qx r n]:=by unfold trQ;rw [List.range_succ,List.map_append];rfl
theorem implCopyD (l:List RatD) (hl:l.length≤1048576):AFn 63 [.d (ratsD l)] [] (fun r os=>r=.d (ratsD l)∧os=[]) :=
 afn_weak (implCopyQ l hl) (fun r os ⟨h1,h2⟩=>⟨_,by rw [h1];exact .buf _ _ _ _,rfl,h2⟩)
section
variable (A:List (List RatD)) (m n:Nat) (hOK:matOK A m n=true) (hm:1≤m∧m≤1000) (hn:n≤1000)
include hOK hm hn
set_option maxHeartbeats 4000000 in
theorem implTransA:AFn 62 [.d (matD A)] [] (fun r os=>r=.tup [.d (matD (trQ A n)),.d (.bool true)]∧os=[]):=by
 obtain ⟨hl,hrow⟩:=matOK_out hOK
 have hA0:0<A.length:=by omega
 have h0l:=(hrow 0 hA0).1
 have r0:(A.map ratsD).getD 0 (.bool false)=ratsD (mx A 0):=getDm hA0
 have hAm:(A.map ratsD).length=A.length:=List.length_map ..
 have hRm:((mx A 0).map ratDV).length=n:=by rw [List.length_map];exact h0l
 have z0:decide (((A.length:Nat):Int)=0)=false:=decide_eq_false (by omega)
 generalize mx A 0=A0 at *
 refine afn_of (rv:=[.tmp 2,.tmp 3]) tyT_ok Tryd.func62 rfl (by decide +kernel) Tryd.ntmps62 rfl (by simp) ?_
 repeat' (first | refine sq ?_ | refine stp ?_ | refine blk_o (by decide) ?_ | (apply cb;(focus (simp (disch:=(first | omega | (simp;omega))) only [go_sem,w64,matD,z0];try exact rfl));refine cok ?_) | (refine rgT ?_;intro K hK) | (refine dA ?_;intro K hK) | (with_reducible refine hK _ ?_;clear hK K) | (refine stq ?_;simp (disch:=(first | omega | (simp;omega))) only [go_sem,w64,matD,z0]) | refine as1 ?_ | fail)
 refine awp_loopw (fun mm s=>∃ i:Nat,mm=A.length - i∧i≤A.length∧s=mkS [(0,.d (matD A)),(13,.d (matD A)),(14,.d (.int (A.length:Nat))),(15,.d (.int (i:Nat)))] []) ?_ ?_
 ·refine ⟨_,_,?_,0,rfl,Nat.zero_le _,rfl⟩
  (refine sle_mk ?_ ?_ <;> simp (disch:=(first | omega | (simp;omega))) only [go_sem,w64,matD] <;> exact leafs)
 ·rintro mm s ⟨i,rfl,hi,rfl⟩
  have w4:IntKind.i64.wrap ((i:Int)+1)=((i+1:Nat):Int):=by rw [w64 (by omega)];rfl
  repeat' (first | refine sq ?_ | refine stp ?_ | refine blk_o (by decide) ?_ | (apply cb;(focus (simp (disch:=(first | omega | (simp;omega))) only [go_sem,w64];try exact rfl));refine cok ?_) | (refine rgT ?_;intro K hK) | (refine dA ?_;intro K hK) | (with_reducible refine hK _ ?_;clear hK K) | (refine stq ?_;simp (disch:=(first | omega | (simp;omega))) only [go_sem,w64]) | refine as1 ?_ | fail)
  refine awp_if (p:=(i:Int)<(A.length:Nat)) (by simp (disch:=(first | omega | (simp;omega))) only [go_sem,w64]) ?_ ?_ <;> intro hc
  ·have hi2:i<A.length:=by omega
   have g0:(A.map ratsD).getD i (.bool false)=ratsD (mx A i):=getDm hi2
   obtain ⟨hxl,hxv⟩:=hrow i hi2
   have hav:=allValidA (mx A i) (by omega)
   rw [hxv] at hav
   generalize mx A i=x at *
   have hxm:(x.map ratDV).length=n:=by rw [List.length_map];exact hxl
   repeat' (first | refine sq ?_ | refine stp ?_ | refine blk_o (by decide) ?_ | (apply cb;(focus (simp (disch:=(first | omega | (simp;omega))) only [go_sem,w64,matD,hAm,g0,r0,Int.toNat_zero,ratsD,hxm,hRm];try exact rfl));refine cok ?_) | (refine rgT ?_;intro K hK) | (refine dA ?_;intro K hK) | (with_reducible refine hK _ ?_;clear hK K) | (refine stq ?_;simp (disch:=(first | omega | (simp;omega))) only [go_sem,w64,matD,hAm,g0,r0,Int.toNat_zero,ratsD,hxm,hRm]) | refine as1 ?_ | fail)
   (first | refine callA (hav) ?_ | refine callD (hav) ?_ | refine callE (hav) ?_ | refine callF (hav) ?_ ?_)
   repeat' (first | refine sq ?_ | refine stp ?_ | refine blk_o (by decide) ?_ | (apply cb;(focus (simp (disch:=(first | omega | (simp;omega))) only [go_sem,w64,w4];try exact rfl));refine cok ?_) | (refine rgT ?_;intro K hK) | (refine dA ?_;intro K hK) | (with_reducible refine hK _ ?_;clear hK K) | (refine stq ?_;simp (disch:=(first | omega | (simp;omega))) only [go_sem,w64,w4]) | refine as1 ?_ | fail)
   refine ⟨A.length - (i+1),_,by omega,?_,i+1,rfl,by omega,rfl⟩
   (refine sle_mk ?_ ?_ <;> simp (disch:=(first | omega | (simp;omega))) only [go_sem,w64,matD] <;> exact leafs)
  ·repeat' (first | refine sq ?_ | refine stp ?_ | refine blk_o (by decide) ?_ | (apply cb;(focus (simp (disch:=(first | omega | (simp;omega))) only [go_sem,w64,matD,r0,Int.toNat_zero,ratsD,hRm,hAm];try exact rfl));refine cok ?_) | (refine rgT ?_;intro K hK) | (refine dA ?_;intro K hK) | (with_reducible refine hK _ ?_;clear hK K) | (refine stq ?_;simp (disch:=(first | omega | (simp;omega))) only [go_sem,w64,matD,r0,Int.toNat_zero,ratsD,hRm,hAm]) | refine as1 ?_ | fail)
   refine awp_nilbuf 6 6 28 1 (by simp (disch:=(first | omega | (simp;omega))) only [go_sem,w64]) ?_
   refine awp_loopw (fun mm s=>∃ k:Nat,mm=n - k∧k≤n∧s=mkS [(0,.d (matD A)),(6,.buf 6 28 1 ((trQ A k).map ratsD)),(35,.d (.int (n:Nat))),(36,.d (.int (k:Nat)))] []) ?_ ?_
   ·refine ⟨_,_,?_,0,rfl,Nat.zero_le _,rfl⟩
    have e:trQ A 0=[]:=rfl
    (refine sle_mk ?_ ?_ <;> simp (disch:=(first | omega | (simp;omega))) only [go_sem,w64,matD,e,List.map_nil] <;> exact leafs)
   ·rintro mm s ⟨k,rfl,hk,rfl⟩
    have w5:IntKind.i64.wrap ((k:Int)+1)=((k+1:Nat):Int):=by rw [w64 (by omega)];rfl
    repeat' (first | refine sq ?_ | refine stp ?_ | refine blk_o (by decide) ?_ | (apply cb;(focus (simp (disch:=(first | omega | (simp;omega))) only [go_sem,w64];try exact rfl));refine cok ?_) | (refine rgT ?_;intro K hK) | (refine dA ?_;intro K hK) | (with_reducible refine hK _ ?_;clear hK K) | (refine stq ?_;simp (disch:=(first | omega | (simp;omega))) only [go_sem,w64]) | refine as1 ?_ | fail)
    refine awp_if (p:=(k:Int)<(n:Nat)) (by simp (disch:=(first | omega | (simp;omega))) only [go_sem,w64]) ?_ ?_ <;> intro hc2
    ·repeat' (first | refine sq ?_ | refine stp ?_ | refine blk_o (by decide) ?_ | (apply cb;(focus (simp (disch:=(first | omega | (simp;omega))) only [go_sem,w64,matD,hAm];try exact rfl));refine cok ?_) | (refine rgT ?_;intro K hK) | (refine dA ?_;intro K hK) | (with_reducible refine hK _ ?_;clear hK K) | (refine stq ?_;simp (disch:=(first | omega | (simp;omega))) only [go_sem,w64,matD,hAm]) | refine as1 ?_ | fail)
     refine awp_nilbuf 8 8 33 2 (by simp (disch:=(first | omega | (simp;omega))) only [go_sem,w64]) ?_
     refine awp_loopw (fun mm s=>∃ i:Nat,mm=A.length - i∧i≤A.length∧s=mkS [(0,.d (matD A)),(6,.buf 6 28 1 ((trQ A k).map ratsD)),(35,.d (.int (n:Nat))),(36,.d (.int (k:Nat))),(7,.d (.int (k:Nat))),(8,.buf 8 33 2 (((A.take i).map fun r=>qx r k).map ratDV)),(40,.d (.int (A.length:Nat))),(41,.d (.int (i:Nat)))] []) ?_ ?_
     ·refine ⟨_,_,?_,0,rfl,Nat.zero_le _,rfl⟩
      (refine sle_mk ?_ ?_ <;> simp (disch:=(first | omega | (simp;omega))) only [go_sem,w64,matD,List.take_zero,List.map_nil] <;> exact leafs)
     ·rintro mm s ⟨i,rfl,hi,rfl⟩
      have w6:IntKind.i64.wrap ((i:Int)+1)=((i+1:Nat):Int):=by rw [w64 (by omega)];rfl
      repeat' (first | refine sq ?_ | refine stp ?_ | refine blk_o (by decide) ?_ | (apply cb;(focus (simp (disch:=(first | omega | (simp;omega))) only [go_sem,w64];try exact rfl));refine cok ?_) | (refine rgT ?_;intro K hK) | (refine dA ?_;intro K hK) | (with_reducible refine hK _ ?_;clear hK K) | (refine stq ?_;simp (disch:=(first | omega | (simp;omega))) only [go_sem,w64]) | refine as1 ?_ | fail)
      refine awp_if (p:=(i:Int)<(A.length:Nat)) (by simp (disch:=(first | omega | (simp;omega))) only [go_sem,w64]) ?_ ?_ <;> intro hc3
      ·have hi2:i<A.length:=by omega
       have g0:(A.map ratsD).getD i (.bool false)=ratsD (mx A i):=getDm hi2
       obtain ⟨hxl,hxv⟩:=hrow i hi2
       have ht:=take_mapI (fun r=>qx r k) A [] hi2
       have hb:(((A.take i).map fun r=>qx r k).map ratDV).length=i:=by rw [List.length_map,List.length_map,List.length_take];omega
       have ex:A.getD i []=mx A i:=rfl
       rw [ex] at ht
       generalize mx A i=x at *
       have g1:(x.map ratDV).getD k (.bool false)=ratDV (qx x k):=getDq (by omega)
       have hxm:(x.map ratDV).length=n:=by rw [List.length_map];exact hxl
       repeat' (first | refine sq ?_ | refine stp ?_ | refine blk_o (by decide) ?_ | (apply cb;(focus (simp (disch:=(first | omega | (simp;omega))) only [go_sem,w64,matD,hAm,g0,ratsD,g1,hxm,w6,hb,ratDV];try exact rfl));refine cok ?_) | (refine rgT ?_;intro K hK) | (refine dA ?_;intro K hK) | (with_reducible refine hK _ ?_;clear hK K) | (refine stq ?_;simp (disch:=(first | omega | (simp;omega))) only [go_sem,w64,matD,hAm,g0,ratsD,g1,hxm,w6,hb,ratDV]) | refine as1 ?_ | fail)
       refine ⟨A.length - (i+1),_,by omega,?_,i+1,rfl,by omega,rfl⟩
       rw [ht,List.map_append]
       (refine sle_mk ?_ ?_ <;> simp (disch:=(first | omega | (simp;omega))) only [go_sem,w64,matD,List.map_cons,List.map_nil,ratDV] <;> exact leafs)
      ·obtain rfl:i=A.length:=by omega
       have hb1:((trQ A k).map ratsD).length=k:=by simp [trQ]
       rw [List.take_length]
       have hb2:((A.map fun r=>qx r k).map ratDV).length=A.length:=by simp
       repeat' (first | refine sq ?_ | refine stp ?_ | refine blk_o (by decide) ?_ | (apply cb;(focus (simp (disch:=(first | omega | (simp;omega))) only [go_sem,w64,w5,hb1,hb2];try exact rfl));refine cok ?_) | (refine rgT ?_;intro K hK) | (refine dA ?_;intro K hK) | (with_reducible refine hK _ ?_;clear hK K) | (refine stq ?_;simp (disch:=(first | omega | (simp;omega))) only [go_sem,w64,w5,hb1,hb2]) | refine as1 ?_ | fail)
       refine ⟨n - (k+1),_,by omega,?_,k+1,rfl,by omega,rfl⟩
       rw [trQ_succ,List.map_append]
       (refine sle_mk ?_ ?_ <;> simp (disch:=(first | omega | (simp;omega))) only [go_sem,w64,matD,List.map_cons,List.map_nil,ratsD] <;> exact leafs)
    ·obtain rfl:k=n:=by omega
     repeat' (first | refine sq ?_ | refine stp ?_ | refine blk_o (by decide) ?_ | (apply cb;(focus (simp (disch:=(first | omega | (simp;omega))) only [go_sem,w64];try exact rfl));refine cok ?_) | (refine rgT ?_;intro K hK) | (refine dA ?_;intro K hK) | (with_reducible refine hK _ ?_;clear hK K) | (refine stq ?_;simp (disch:=(first | omega | (simp;omega))) only [go_sem,w64]) | refine as1 ?_ | fail)
     (refine endA (r:=.tup [.d (matD (trQ A k)),.d (.bool true)]) ?_)
     exact ⟨rfl,rfl⟩
end
structure LpS where
 A:List (List RatD)
 B:List RatD
 C:List RatD
 ok:Bool
def ansP (p:LpS):AV:=.tup [.d (lpD p.A p.B p.C),.d (.bool p.ok)]
theorem noLp:ALe (.tup [.d (.agg [.sl 1 [],.sl 1 [],.sl 1 []]),.d (.bool false)]) (.tup [.d (.agg [.sl 1 [],.sl 2 [],.sl 2 []]),.d (.bool false)]):=.tup (.cons (ALe.dd (dle_agg (.cons (dle_refl _) (.cons (dle_nil 1 2) (.cons (dle_nil 1 2) .nil))))) (.cons (.refl _) .nil))
def dlF (A:List (List RatD)) (B C:List RatD):LpS:=if lpV A B C=true then ⟨trQ A C.length,C,B,true⟩ else ⟨[],[],[],false⟩
section
variable (A:List (List RatD)) (B C:List RatD) (hA:A.length≤1048576) (hr:∀ i,i<A.length→(mx A i).length≤1048576) (hB:B.length≤1048576) (hC:C.length≤1048576)
include hA hr hB hC
set_option maxHeartbeats 4000000 in
theorem implDualA:AFn 35 [.d (lpD A B C)] [] (fun r os=>r=ansP (dlF A B C)∧os=[]):=by
 refine afn_of (rv:=[.cell 2 43,.tmp 3]) tyT_ok Tryd.func35 rfl (by decide +kernel) Tryd.ntmps35 rfl (by simp) ?_
 repeat' (first | refine sq ?_ | refine stp ?_ | refine blk_o (by decide) ?_ | (apply cb;(focus (simp (disch:=(first | omega | (simp;omega))) only [go_sem,w64,lpD];try exact rfl));refine cok ?_) | (refine rgT ?_;intro K hK) | (refine dA ?_;intro K hK) | (with_reducible refine hK _ ?_;clear hK K) | (refine stq ?_;simp (disch:=(first | omega | (simp;omega))) only [go_sem,w64,lpD]) | refine as1 ?_ | fail)
 (first | refine callA (implLpA A B C hA hr hB hC) ?_ | refine callD (implLpA A B C hA hr hB hC) ?_ | refine callE (implLpA A B C hA hr hB hC) ?_ | refine callF (implLpA A B C hA hr hB hC) ?_ ?_)
 cases h:lpV A B C with
 | false =>
  repeat' (first | refine sq ?_ | refine stp ?_ | refine blk_o (by decide) ?_ | (apply cb;(focus (simp (disch:=(first | omega | (simp;omega))) only [go_sem,w64,h];try exact rfl));refine cok ?_) | (refine rgT ?_;intro K hK) | (refine dA ?_;intro K hK) | (with_reducible refine hK _ ?_;clear hK K) | (refine stq ?_;simp (disch:=(first | omega | (simp;omega))) only [go_sem,w64,h]) | refine as1 ?_ | fail)
  refine endA (r:=.tup [.d (.agg [.sl 1 [],.sl 2 [],.sl 2 []]),.d (.bool false)]) (h:=(by simp (disch:=(first | omega | (simp;omega))) only [go_sem,w64];exact noLp)) ?_
  exact ⟨by unfold dlF;rw [if_neg (by rw [h];simp)];rfl,rfl⟩
 | true =>
  obtain ⟨⟨c1,c2⟩,⟨b1,b2⟩,hmo,_,_⟩:=lpV_out h
  have ht:=implTransA A B.length C.length hmo (by omega) (by omega)
  have hBm:(B.map ratDV).length=B.length:=List.length_map ..
  have hCm:(C.map ratDV).length=C.length:=List.length_map ..
  have hc1:=implCopyD C hC
  have hc2:=implCopyD B hB
  repeat' (first | refine sq ?_ | refine stp ?_ | refine blk_o (by decide) ?_ | (apply cb;(focus (simp (disch:=(first | omega | (simp;omega))) only [go_sem,w64,h,lpD,matD];try exact rfl));refine cok ?_) | (refine rgT ?_;intro K hK) | (refine dA ?_;intro K hK) | (with_reducible refine hK _ ?_;clear hK K) | (refine stq ?_;simp (disch:=(first | omega | (simp;omega))) only [go_sem,w64,h,lpD,matD]) | refine as1 ?_ | fail)
  (first | refine callA (ht) ?_ | refine callD (ht) ?_ | refine callE (ht) ?_ | refine callF (ht) ?_ ?_)
  repeat' (first | refine sq ?_ | refine stp ?_ | refine blk_o (by decide) ?_ | (apply cb;(focus (simp (disch:=(first | omega | (simp;omega))) only [go_sem,w64,matD,ratsD];try exact rfl));refine cok ?_) | (refine rgT ?_;intro K hK) | (refine dA ?_;intro K hK) | (with_reducible refine hK _ ?_;clear hK K) | (refine stq ?_;simp (disch:=(first | omega | (simp;omega))) only [go_sem,w64,matD,ratsD]) | refine as1 ?_ | fail)
  (first | refine callA (hc1) ?_ | refine callD (hc1) ?_ | refine callE (hc1) ?_ | refine callF (hc1) ?_ ?_)
  repeat' (first | refine sq ?_ | refine stp ?_ | refine blk_o (by decide) ?_ | (apply cb;(focus (simp (disch:=(first | omega | (simp;omega))) only [go_sem,w64,ratsD];try exact rfl));refine cok ?_) | (refine rgT ?_;intro K hK) | (refine dA ?_;intro K hK) | (with_reducible refine hK _ ?_;clear hK K) | (refine stq ?_;simp (disch:=(first | omega | (simp;omega))) only [go_sem,w64,ratsD]) | refine as1 ?_ | fail)
  (first | refine callA (hc2) ?_ | refine callD (hc2) ?_ | refine callE (hc2) ?_ | refine callF (hc2) ?_ ?_)
  repeat' (first | refine sq ?_ | refine stp ?_ | refine blk_o (by decide) ?_ | (apply cb;(focus (simp (disch:=(first | omega | (simp;omega))) only [go_sem,w64,ratsD];try exact rfl));refine cok ?_) | (refine rgT ?_;intro K hK) | (refine dA ?_;intro K hK) | (with_reducible refine hK _ ?_;clear hK K) | (refine stq ?_;simp (disch:=(first | omega | (simp;omega))) only [go_sem,w64,ratsD]) | refine as1 ?_ | fail)
  (refine endA (r:=.tup [.d (.agg [matD (trQ A C.length),ratsD C,ratsD B]),.d (.bool true)]) ?_)
  exact ⟨by unfold dlF;rw [if_pos h];rfl,rfl⟩
end
end Go.Proofs.YtkohkoiegmcghaaDoor
namespace Go.Proofs.YtkohkoiegmcghaaDoor
set_option linter.unusedSimpArgs false
set_option linter.unusedVariables false
attribute [local go_sem ↓] reduceIte
attribute [local go_sem] Nat.reduceEqDiff Nat.reduceLT Nat.reduceAdd Nat.reduceLeDiff Nat.reduceMul Nat.reduceBEq Nat.reduceSub reduceCtorEq Int.reduceLE Int.reduceNeg Int.reduceLT
open Go.RowKit
def isByt (y:DV):Prop:=∃ l:List Int,y=.sl 1 (l.map .byte)
def isNatD (y:DV):Prop:=∃ n:Int,0≤n∧y=.int n
def isIntP (y:DV):Prop:=∃ n:Int,y=.int n
def curL:List AV:=[.any isByt,.any isNatD,.any isIntP]
@[go_sem] theorem cur_scr (fb fo:Nat→Bool):scrubs fb fo curL=curL:=rfl
@[go_sem] theorem cur_scr' (fb fo:Nat→Bool):List.map (scrub fb fo) curL=curL:=rfl
@[go_sem] theorem cur_ren (ns:List Nat) (d:Nat):renAs ns d curL=curL:=rfl
@[go_sem] theorem cur_ent:entAs curL=curL:=rfl
@[go_sem] theorem cur_out (nl:List Nat) (g:Nat):outAs nl g curL=curL:=rfl
@[go_sem] theorem cur_frz (o k:Nat) (es:List DV):frzs o k es curL=curL:=rfl
def curC (l:List Int) (i h:Int):List AV:=[.d (.sl 1 (l.map .byte)),.d (.int i),.d (.int h)]
theorem cur_le {l:List Int} {i h:Int} (hi:0≤i):ALes (curC l i h) curL :=
 .cons (.any ⟨l,rfl⟩ (fun m e=>(by cases e))) (.cons (.any ⟨i,hi,rfl⟩ (fun m e=>(by cases e))) (.cons (.any ⟨h,rfl⟩ (fun m e=>(by cases e))) .nil))
theorem afn_cur {f:FuncId} {args:List AV} {R:AV→List (List AV)→Prop} (h:∀ (l:List Int) (i h:Int),0≤i→l.length≤9223372036854775807→AFn f args [curC l i h] R):AFn f args [curL] R:=by
 refine ⟨(h [] 0 0 (by omega) (by simp)).1,fun w G vs h1 h2 h3 h4=>?_⟩
 obtain ⟨g1,g2,us,g3,g4,g5⟩:=h3 0 curL rfl
 obtain ⟨u0,us,rfl,⟨x0,⟨l,rfl⟩,_,c0⟩,u1,us,rfl,⟨x1,⟨i,hi,rfl⟩,_,c1⟩,u2,us,rfl,⟨x2,⟨z,rfl⟩,_,c2⟩,rfl⟩:=g3
 have hl:l.length≤9223372036854775807:=by
  obtain ⟨a,n,c,vs,e1,e2,e3,e4⟩:=c0
  have:=e4.small
  simp only [List.length_map] at e2
  omega
 refine (h l i z hi hl).2 w G vs h1 h2 (fun j l' hj=>?_) h4
 cases j with
 | succ j=>simp at hj
 | zero =>
  simp only [List.getElem?_cons_zero,Option.some.injEq] at hj
  subst hj
  exact ⟨g1,g2,_,⟨u0,_,rfl,⟨_,c0,.inr ⟨fun m e=>(by cases e),rfl⟩⟩,u1,_,rfl,⟨_,c1,.inr ⟨fun m e=>(by cases e),rfl⟩⟩,u2,_,rfl,⟨_,c2,.inr ⟨fun m e=>(by cases e),rfl⟩⟩,rfl⟩,g4,g5⟩
theorem obOK_le {G:Gh} {w:World} {o:Nat} {l m:List AV} (h:ALes l m) (ho:ObOK G w o l):ObOK G w o m:=by
 obtain ⟨g1,g2,us,g3,g4,g5⟩:=ho
 exact ⟨g1,g2,us,h.cv g3,g4,g5⟩
theorem afn_weak1 {f:FuncId} {args:List AV} {os:List (List AV)} {R R':AV→List (List AV)→Prop} (h:AFn f args os R) (hR:∀ r os',R r os'→∃ r' l l',os'=[l]∧ALe r r'∧ALes l l'∧R' r' [l']):AFn f args os R':=by
 refine ⟨h.1,fun w G vs h1 h2 h3 h4=>(h.2 w G vs h1 h2 h3 h4).mono ?_⟩
 rintro e w' ⟨v,r,os',G',rfl,hp⟩
 obtain ⟨r',l,l',rfl,h5,h6,h7⟩:=hR r os' hp.post
 refine ⟨_,r',[l'],G',rfl,h7,h5.cv hp.res,hp.fr,hp.st,hp.le,fun i m hm=>?_,hp.adl,hp.adn,hp.d2,hp.cs,hp.lc,hp.bf,hp.d1,hp.d3,hp.uf⟩
 cases i with
 | succ i=>simp at hm
 | zero =>
  simp only [List.getElem?_cons_zero,Option.some.injEq] at hm
  subst hm
  exact obOK_le h6 (hp.ob 0 l rfl)
theorem end1 {ty:TypeId→Option TyI} {N:Nat} {s:AS} {rv:List ResultVar} {R:AV→List (List AV)→Prop} {e:Exit} (g:Nat) {xs:List AV} {r:AV} {l:List AV} (he:e=.normal∨e=.ret) (hx:finA ty N s rv=some xs) (hob:s.ob 1000000=some l) (h:ALe (outA [1000000] g (retA xs)) r) (hR:R r [outAs [1000000] g l]):EndA ty N 1 rv R e s :=
 ⟨he,[],g,xs,[outAs [1000000] g l],hx,by simp [lentN],by simp,by simp [lentN,obsOut,hob],r,by simpa [lentN] using h,hR⟩
theorem endN {ty:TypeId→Option TyI} {N:Nat} {s:AS} {rv:List ResultVar} {R:AV→List (List AV)→Prop} {e:Exit} (o:Nat) {xs:List AV} {r:AV} {l:List AV} (he:e=.normal∨e=.ret) (hx:finA ty N s rv=some xs) (hlt:o<1000000) (hob:s.ob o=some l) (h:ALe (outA [o] 0 (retA xs)) r) (hR:R r [outAs [o] 0 l]):EndA ty N 0 rv R e s :=
 ⟨he,[o],0,xs,[outAs [o] 0 l],hx,by simp [lentN],by simpa using hlt,by simp [lentN,obsOut,hob],r,by simpa [lentN] using h,hR⟩
theorem andI_255 (x:Int):0≤andI x 255∧andI x 255≤255:=by
 unfold andI
 have h1:(BitVec.ofInt 64 x &&& BitVec.ofInt 64 255).toNat≤255:=by
  rw [BitVec.toNat_and]
  exact Nat.le_trans Nat.and_le_right (by decide)
 rw [i64_wrap_id (by unfold I64;omega)]
 omega
theorem getDB {l:List Int} {i:Nat} {x:DV} (h:i<l.length):(l.map DV.byte).getD i x=.byte (ix l i):=by simp [List.getD,ix,h]
theorem l1ByteC (l:List Int) (i h:Int) (hi:0≤i) (hl:l.length≤9223372036854775807):AFn 54 [.ptr 0 0] [curC l i h] (fun r os=>∃ x i' h',(0≤x∧x≤255)∧0≤i'∧r=.d (.int x)∧os=[curC l i' h']):=by
 refine afn_of (rv:=[.tmp 2]) tyT_ok Tryd.func54 rfl (by decide +kernel) Tryd.ntmps54 rfl (by simp) ?_
 repeat' (first | refine sq ?_ | refine stp ?_ | refine blk_o (by decide) ?_ | (apply cb;(focus (simp (disch:=(first | omega | (simp;omega))) only [go_sem,w64,curC];try exact rfl));refine cok ?_) | (refine rgT ?_;intro K hK) | (refine dA ?_;intro K hK) | (with_reducible refine hK _ ?_;clear hK K) | (refine stq ?_;simp (disch:=(first | omega | (simp;omega))) only [go_sem,w64,curC]) | refine as1 ?_ | fail)
 generalize IntKind.i64.wrap (IntKind.i64.wrap (h*6364136223846793005)+1442695040888963407)=h'
 have hx:=andI_255 (xorI (shrI h' 33) (shrI h' 45))
 generalize andI (xorI (shrI h' 33) (shrI h' 45)) 255=x at hx
 refine awp_if (p:=i<(l.length:Nat)) (by simp (disch:=(first | omega | (simp;omega))) only [go_sem,w64]) ?_ ?_ <;> intro hc
 ·have hk:i.toNat<l.length:=by omega
  have hw:IntKind.i64.wrap (i+1)=i+1:=w64 (by omega)
  repeat' (first | refine sq ?_ | refine stp ?_ | refine blk_o (by decide) ?_ | (apply cb;(focus (simp (disch:=(first | omega | (simp;omega))) only [go_sem,w64,getDB,hw];try exact rfl));refine cok ?_) | (refine rgT ?_;intro K hK) | (refine dA ?_;intro K hK) | (with_reducible refine hK _ ?_;clear hK K) | (refine stq ?_;simp (disch:=(first | omega | (simp;omega))) only [go_sem,w64,getDB,hw]) | refine as1 ?_ | fail)
  have hy:=andI_255 (IntKind.i64.wrap (x+ix l i.toNat))
  refine end1 0 (.inr rfl) (by simp (disch:=(first | omega | (simp;omega))) only [go_sem,w64];rfl) (by simp (disch:=(first | omega | (simp;omega))) only [go_sem,w64];rfl) (r:=.d (.int (andI (IntKind.i64.wrap (x+ix l i.toNat)) 255))) (by simp (disch:=(first | omega | (simp;omega))) only [go_sem,w64];exact .refl _) ?_
  exact ⟨_,i+1,h',hy,by omega,rfl,rfl⟩
 ·repeat' (first | refine sq ?_ | refine stp ?_ | refine blk_o (by decide) ?_ | (apply cb;(focus (simp (disch:=(first | omega | (simp;omega))) only [go_sem,w64];try exact rfl));refine cok ?_) | (refine rgT ?_;intro K hK) | (refine dA ?_;intro K hK) | (with_reducible refine hK _ ?_;clear hK K) | (refine stq ?_;simp (disch:=(first | omega | (simp;omega))) only [go_sem,w64]) | refine as1 ?_ | fail)
  refine end1 0 (.inr rfl) (by simp (disch:=(first | omega | (simp;omega))) only [go_sem,w64];rfl) (by simp (disch:=(first | omega | (simp;omega))) only [go_sem,w64];rfl) (r:=.d (.int x)) (by simp (disch:=(first | omega | (simp;omega))) only [go_sem,w64];exact .refl _) ?_
  exact ⟨_,i,h',hx,hi,rfl,rfl⟩
theorem l1ByteA:AFn 54 [.ptr 0 0] [curL] (fun r os=>∃ x:Int,(0≤x∧x≤255)∧r=.d (.int x)∧os=[curL]):=by
 refine afn_cur (fun l i h hi hl=>afn_weak1 (l1ByteC l i h hi hl) ?_)
 rintro r os ⟨x,i',h',hx,hi',rfl,rfl⟩
 exact ⟨_,_,_,rfl,.refl _,cur_le hi',x,hx,rfl,rfl⟩
theorem l1BelowA (n:Int):AFn 25 [.ptr 0 0,.d (.int n)] [curL] (fun r os=>∃ x:Int,(0≤x∧(n≤0→x=0)∧(0<n→x<n))∧r=.d (.int x)∧os=[curL]):=by
 refine afn_of (rv:=[.tmp 4]) tyT_ok Tryd.func25 rfl (by decide +kernel) Tryd.ntmps25 rfl (by simp) ?_
 repeat' (first | refine sq ?_ | refine stp ?_ | refine blk_o (by decide) ?_ | (apply cb;(focus (simp (disch:=(first | omega | (simp;omega))) only [go_sem,w64];try exact rfl));refine cok ?_) | (refine rgT ?_;intro K hK) | (refine dA ?_;intro K hK) | (with_reducible refine hK _ ?_;clear hK K) | (refine stq ?_;simp (disch:=(first | omega | (simp;omega))) only [go_sem,w64]) | refine as1 ?_ | fail)
 refine awp_if (p:=n≤0) (by simp (disch:=(first | omega | (simp;omega))) only [go_sem,w64]) ?_ ?_ <;> intro hc
 ·repeat' (first | refine sq ?_ | refine stp ?_ | refine blk_o (by decide) ?_ | (apply cb;(focus (simp (disch:=(first | omega | (simp;omega))) only [go_sem,w64];try exact rfl));refine cok ?_) | (refine rgT ?_;intro K hK) | (refine dA ?_;intro K hK) | (with_reducible refine hK _ ?_;clear hK K) | (refine stq ?_;simp (disch:=(first | omega | (simp;omega))) only [go_sem,w64]) | refine as1 ?_ | fail)
  refine end1 0 (.inr rfl) (by simp (disch:=(first | omega | (simp;omega))) only [go_sem,w64];rfl) (by simp (disch:=(first | omega | (simp;omega))) only [go_sem,w64];rfl) (r:=.d (.int 0)) (by simp (disch:=(first | omega | (simp;omega))) only [go_sem,w64];exact .refl _) ?_
  exact ⟨0,⟨by omega,fun _=>rfl,fun h=>h⟩,rfl,rfl⟩
 ·repeat' (first | refine sq ?_ | refine stp ?_ | refine blk_o (by decide) ?_ | (apply cb;(focus (simp (disch:=(first | omega | (simp;omega))) only [go_sem,w64];try exact rfl));refine cok ?_) | (refine rgT ?_;intro K hK) | (refine dA ?_;intro K hK) | (with_reducible refine hK _ ?_;clear hK K) | (refine stq ?_;simp (disch:=(first | omega | (simp;omega))) only [go_sem,w64]) | refine as1 ?_ | fail)
  refine awp_if (p:=n≤256) (by simp (disch:=(first | omega | (simp;omega))) only [go_sem,w64]) ?_ ?_ <;> intro hc2
  ·have hn0:n ≠ 0:=by omega
   repeat' (first | refine sq ?_ | refine stp ?_ | refine blk_o (by decide) ?_ | (apply cb;(focus (simp (disch:=(first | omega | (simp;omega))) only [go_sem,w64];try exact rfl));refine cok ?_) | (refine rgT ?_;intro K hK) | (refine dA ?_;intro K hK) | (with_reducible refine hK _ ?_;clear hK K) | (refine stq ?_;simp (disch:=(first | omega | (simp;omega))) only [go_sem,w64]) | refine as1 ?_ | fail)
   (refine callL 1000000 (l1ByteA) ?_)
   rintro r os ⟨x,hx,rfl,rfl⟩
   refine ⟨by decide,?_⟩
   repeat' (first | refine sq ?_ | refine stp ?_ | refine blk_o (by decide) ?_ | (apply cb;(focus (simp (disch:=(first | omega | (simp;omega))) only [go_sem,w64,hn0];try exact rfl));refine cok ?_) | (refine rgT ?_;intro K hK) | (refine dA ?_;intro K hK) | (with_reducible refine hK _ ?_;clear hK K) | (refine stq ?_;simp (disch:=(first | omega | (simp;omega))) only [go_sem,w64,hn0]) | refine as1 ?_ | fail)
   refine end1 0 (.inr rfl) (by simp (disch:=(first | omega | (simp;omega))) only [go_sem,w64];rfl) (by simp (disch:=(first | omega | (simp;omega))) only [go_sem,w64];rfl) (r:=.d (.int (x.tmod n))) (by simp (disch:=(first | omega | (simp;omega))) only [go_sem,w64];exact .refl _) ?_
   have e:x.tmod n=x % n:=Int.tmod_eq_emod_of_nonneg hx.1
   have e1:=Int.emod_nonneg x hn0
   have e2:=Int.emod_lt_of_pos x (show 0<n by omega)
   exact ⟨_,⟨by omega,fun h=>by omega,fun _=>by omega⟩,rfl,rfl⟩
  ·have hn0:n ≠ 0:=by omega
   repeat' (first | refine sq ?_ | refine stp ?_ | refine blk_o (by decide) ?_ | (apply cb;(focus (simp (disch:=(first | omega | (simp;omega))) only [go_sem,w64];try exact rfl));refine cok ?_) | (refine rgT ?_;intro K hK) | (refine dA ?_;intro K hK) | (with_reducible refine hK _ ?_;clear hK K) | (refine stq ?_;simp (disch:=(first | omega | (simp;omega))) only [go_sem,w64]) | refine as1 ?_ | fail)
   (refine callL 1000000 (l1ByteA) ?_)
   rintro r os ⟨x,hx,rfl,rfl⟩
   refine ⟨by decide,?_⟩
   repeat' (first | refine sq ?_ | refine stp ?_ | refine blk_o (by decide) ?_ | (apply cb;(focus (simp (disch:=(first | omega | (simp;omega))) only [go_sem,w64];try exact rfl));refine cok ?_) | (refine rgT ?_;intro K hK) | (refine dA ?_;intro K hK) | (with_reducible refine hK _ ?_;clear hK K) | (refine stq ?_;simp (disch:=(first | omega | (simp;omega))) only [go_sem,w64]) | refine as1 ?_ | fail)
   (refine callL 1000000 (l1ByteA) ?_)
   rintro r os ⟨y,hy,rfl,rfl⟩
   refine ⟨by decide,?_⟩
   repeat' (first | refine sq ?_ | refine stp ?_ | refine blk_o (by decide) ?_ | (apply cb;(focus (simp (disch:=(first | omega | (simp;omega))) only [go_sem,w64];try exact rfl));refine cok ?_) | (refine rgT ?_;intro K hK) | (refine dA ?_;intro K hK) | (with_reducible refine hK _ ?_;clear hK K) | (refine stq ?_;simp (disch:=(first | omega | (simp;omega))) only [go_sem,w64]) | refine as1 ?_ | fail)
   (refine callL 1000000 (l1ByteA) ?_)
   rintro r os ⟨z,hz,rfl,rfl⟩
   refine ⟨by decide,?_⟩
   repeat' (first | refine sq ?_ | refine stp ?_ | refine blk_o (by decide) ?_ | (apply cb;(focus (simp (disch:=(first | omega | (simp;omega))) only [go_sem,w64];try exact rfl));refine cok ?_) | (refine rgT ?_;intro K hK) | (refine dA ?_;intro K hK) | (with_reducible refine hK _ ?_;clear hK K) | (refine stq ?_;simp (disch:=(first | omega | (simp;omega))) only [go_sem,w64]) | refine as1 ?_ | fail)
   (refine callL 1000000 (l1ByteA) ?_)
   rintro r os ⟨v,hv,rfl,rfl⟩
   refine ⟨by decide,?_⟩
   have w1:IntKind.i64.wrap (x*16777216)=x*16777216:=w64 (by omega)
   have w2:IntKind.i64.wrap (y*65536)=y*65536:=w64 (by omega)
   have w3:IntKind.i64.wrap (x*16777216+y*65536)=x*16777216+y*65536:=w64 (by omega)
   have w4:IntKind.i64.wrap (z*256)=z*256:=w64 (by omega)
   have w5:IntKind.i64.wrap (x*16777216+y*65536+z*256)=x*16777216+y*65536+z*256:=w64 (by omega)
   have w6:IntKind.i64.wrap (x*16777216+y*65536+z*256+v)=x*16777216+y*65536+z*256+v:=w64 (by omega)
   repeat' (first | refine sq ?_ | refine stp ?_ | refine blk_o (by decide) ?_ | (apply cb;(focus (simp (disch:=(first | omega | (simp;omega))) only [go_sem,w64,hn0,w1,w2,w3,w4,w5,w6];try exact rfl));refine cok ?_) | (refine rgT ?_;intro K hK) | (refine dA ?_;intro K hK) | (with_reducible refine hK _ ?_;clear hK K) | (refine stq ?_;simp (disch:=(first | omega | (simp;omega))) only [go_sem,w64,hn0,w1,w2,w3,w4,w5,w6]) | refine as1 ?_ | fail)
   refine end1 0 (.inr rfl) (by simp (disch:=(first | omega | (simp;omega))) only [go_sem,w64];rfl) (by simp (disch:=(first | omega | (simp;omega))) only [go_sem,w64];rfl) (r:=.d (.int ((x*16777216+y*65536+z*256+v).tmod n))) (by simp (disch:=(first | omega | (simp;omega))) only [go_sem,w64];exact .refl _) ?_
   generalize hq:x*16777216+y*65536+z*256+v=q
   have hq0:0≤q:=by omega
   have e:q.tmod n=q % n:=Int.tmod_eq_emod_of_nonneg hq0
   have e1:=Int.emod_nonneg q hn0
   have e2:=Int.emod_lt_of_pos q (show 0<n by omega)
   exact ⟨_,⟨by omega,fun h=>by omega,fun _=>by omega⟩,rfl,rfl⟩
theorem l1OnceA (n:Int):AFn 26 [.ptr 0 0,.d (.int n)] [curL] (fun r os=>∃ b:Bool,r=.d (.bool b)∧os=[curL]):=by
 refine afn_of (rv:=[.tmp 4]) tyT_ok Tryd.func26 rfl (by decide +kernel) Tryd.ntmps26 rfl (by simp) ?_
 repeat' (first | refine sq ?_ | refine stp ?_ | refine blk_o (by decide) ?_ | (apply cb;(focus (simp (disch:=(first | omega | (simp;omega))) only [go_sem,w64];try exact rfl));refine cok ?_) | (refine rgT ?_;intro K hK) | (refine dA ?_;intro K hK) | (with_reducible refine hK _ ?_;clear hK K) | (refine stq ?_;simp (disch:=(first | omega | (simp;omega))) only [go_sem,w64]) | refine as1 ?_ | fail)
 (refine callL 1000000 (l1BelowA n) ?_)
 rintro r os ⟨x,hx,rfl,rfl⟩
 refine ⟨by decide,?_⟩
 repeat' (first | refine sq ?_ | refine stp ?_ | refine blk_o (by decide) ?_ | (apply cb;(focus (simp (disch:=(first | omega | (simp;omega))) only [go_sem,w64];try exact rfl));refine cok ?_) | (refine rgT ?_;intro K hK) | (refine dA ?_;intro K hK) | (with_reducible refine hK _ ?_;clear hK K) | (refine stq ?_;simp (disch:=(first | omega | (simp;omega))) only [go_sem,w64]) | refine as1 ?_ | fail)
 refine end1 0 (.inr rfl) (by simp (disch:=(first | omega | (simp;omega))) only [go_sem,w64];rfl) (by simp (disch:=(first | omega | (simp;omega))) only [go_sem,w64];rfl) (r:=.d (.bool (decide (x=0)))) (by simp (disch:=(first | omega | (simp;omega))) only [go_sem,w64];exact .refl _) ?_
 exact ⟨_,rfl,rfl⟩
theorem l1NewA (l:List Int) (hl:l.length≤1048576):AFn 22 [.d (.sl 1 (l.map .byte))] [] (fun r os=>r=.ptr 0 0∧os=[curL]):=by
 have h:AFn 22 [.d (.sl 1 (l.map .byte))] [] (fun r os=>∃ h,r=.ptr 0 0∧os=[curC l 0 h]):=by
  refine afn_of (rv:=[.tmp 2]) tyT_ok Tryd.func22 rfl (by decide +kernel) Tryd.ntmps22 rfl (by simp) ?_
  repeat' (first | refine sq ?_ | refine stp ?_ | refine blk_o (by decide) ?_ | (apply cb;(focus (simp (disch:=(first | omega | (simp;omega))) only [go_sem,w64];try exact rfl));refine cok ?_) | (refine rgT ?_;intro K hK) | (refine dA ?_;intro K hK) | (with_reducible refine hK _ ?_;clear hK K) | (refine stq ?_;simp (disch:=(first | omega | (simp;omega))) only [go_sem,w64]) | refine as1 ?_ | fail)
  refine awp_loopw (fun m s=>∃ (k:Nat) (h:Int),m=l.length - k∧k≤l.length∧s=mkS [(0,.d (.sl 1 (l.map .byte))),(3,.d (.int h)),(4,.d (.int (k:Nat)))] []) ?_ ?_
  ·refine ⟨_,_,?_,0,IntKind.i64.wrap (10101+(l.length:Nat)),rfl,Nat.zero_le _,rfl⟩
   exact sleA
  ·rintro m s ⟨k,h,rfl,hk,rfl⟩
   have fin:∀ (h:Int),∃ h',AV.ptr 0 0=AV.ptr 0 0∧[curC l 0 h]=[curC l 0 h']:=fun h=>⟨h,rfl,rfl⟩
   by_cases h1:(k:Int)<(l.length:Nat)
   ·by_cases h2:(k:Int)<4000
    ·repeat' (first | refine sq ?_ | refine stp ?_ | refine blk_o (by decide) ?_ | (apply cb;(focus (simp (disch:=(first | omega | (simp;omega))) only [go_sem,w64,h1,h2,getDB];try exact rfl));refine cok ?_) | (refine rgT ?_;intro K hK) | (refine dA ?_;intro K hK) | (with_reducible refine hK _ ?_;clear hK K) | (refine stq ?_;simp (disch:=(first | omega | (simp;omega))) only [go_sem,w64,h1,h2,getDB]) | refine as1 ?_ | fail)
     refine ⟨l.length - (k+1),_,by omega,?_,k+1,?hv,rfl,by omega,rfl⟩
     ·exact sleA
    ·have h2':(k:Int)<4000↔False:=iff_of_false h2 id
     repeat' (first | refine sq ?_ | refine stp ?_ | refine blk_o (by decide) ?_ | (apply cb;(focus (simp (disch:=(first | omega | (simp;omega))) only [go_sem,w64,h1,h2'];try exact rfl));refine cok ?_) | (refine rgT ?_;intro K hK) | (refine dA ?_;intro K hK) | (with_reducible refine hK _ ?_;clear hK K) | (refine stq ?_;simp (disch:=(first | omega | (simp;omega))) only [go_sem,w64,h1,h2']) | refine as1 ?_ | fail)
     refine endN 31 (.inr rfl) (by simp (disch:=(first | omega | (simp;omega))) only [go_sem,w64];rfl) (by decide) (by simp (disch:=(first | omega | (simp;omega))) only [go_sem,w64];rfl) (r:=.ptr 0 0) (by simp (disch:=(first | omega | (simp;omega))) only [go_sem,w64];exact .refl _) ?_
     exact fin h
   ·have h1':(k:Int)<(l.length:Nat)↔False:=iff_of_false h1 id
    repeat' (first | refine sq ?_ | refine stp ?_ | refine blk_o (by decide) ?_ | (apply cb;(focus (simp (disch:=(first | omega | (simp;omega))) only [go_sem,w64,h1'];try exact rfl));refine cok ?_) | (refine rgT ?_;intro K hK) | (refine dA ?_;intro K hK) | (with_reducible refine hK _ ?_;clear hK K) | (refine stq ?_;simp (disch:=(first | omega | (simp;omega))) only [go_sem,w64,h1']) | refine as1 ?_ | fail)
    refine endN 31 (.inr rfl) (by simp (disch:=(first | omega | (simp;omega))) only [go_sem,w64];rfl) (by decide) (by simp (disch:=(first | omega | (simp;omega))) only [go_sem,w64];rfl) (r:=.ptr 0 0) (by simp (disch:=(first | omega | (simp;omega))) only [go_sem,w64];exact .refl _) ?_
    exact fin h
 refine afn_weak1 h ?_
 rintro r os ⟨h',rfl,rfl⟩
 exact ⟨_,_,_,rfl,.refl _,cur_le (by omega),rfl,rfl⟩
theorem bigA (code:List Int) (hl:code.length≤9223372036854775807):AFn 5 [.d (.sl 1 (code.map .byte))] [] (fun r os=>r=.d (.bool (decide ((1048576:Int)<(code.length:Nat))))∧os=[]):=by
 refine afn_of (rv:=[.tmp 2]) tyT_ok Tryd.func5 rfl (by decide +kernel) Tryd.ntmps5 rfl (by simp) ?_
 repeat' (first | refine sq ?_ | refine stp ?_ | refine blk_o (by decide) ?_ | (apply cb;(focus (simp (disch:=(first | omega | (simp;omega))) only [go_sem,w64];try exact rfl));refine cok ?_) | (refine rgT ?_;intro K hK) | (refine dA ?_;intro K hK) | (with_reducible refine hK _ ?_;clear hK K) | (refine stq ?_;simp (disch:=(first | omega | (simp;omega))) only [go_sem,w64]) | refine as1 ?_ | fail)
 (refine endA (r:=.d (.bool (decide ((1048576:Int)<(code.length:Nat))))) ?_)
 exact ⟨rfl,rfl⟩
theorem l1PickIntM (xs:List Int) (h0:0<xs.length):AFn 50 [.ptr 0 0,.d (intsD xs)] [curL] (fun r os=>∃ x:Int,x∈xs∧r=.d (.int x)∧os=[curL]):=by
 refine afn_of (rv:=[.tmp 4]) tyT_ok Tryd.func50 rfl (by decide +kernel) Tryd.ntmps50 rfl (by simp) ?_
 repeat' (first | refine sq ?_ | refine stp ?_ | refine blk_o (by decide) ?_ | (apply cb;(focus (simp (disch:=(first | omega | (simp;omega))) only [go_sem,w64,intsD];try exact rfl));refine cok ?_) | (refine rgT ?_;intro K hK) | (refine dA ?_;intro K hK) | (with_reducible refine hK _ ?_;clear hK K) | (refine stq ?_;simp (disch:=(first | omega | (simp;omega))) only [go_sem,w64,intsD]) | refine as1 ?_ | fail)
 (refine callL 1000000 (l1BelowA (xs.length:Nat)) ?_)
 rintro r os ⟨x,⟨hx0,_,hx1⟩,rfl,rfl⟩
 have hx2:=hx1 (by omega)
 have hk:x.toNat<xs.length:=by omega
 refine ⟨by decide,?_⟩
 repeat' (first | refine sq ?_ | refine stp ?_ | refine blk_o (by decide) ?_ | (apply cb;(focus (simp (disch:=(first | omega | (simp;omega))) only [go_sem,w64,intsD];try exact rfl));refine cok ?_) | (refine rgT ?_;intro K hK) | (refine dA ?_;intro K hK) | (with_reducible refine hK _ ?_;clear hK K) | (refine stq ?_;simp (disch:=(first | omega | (simp;omega))) only [go_sem,w64,intsD]) | refine as1 ?_ | fail)
 refine end1 0 (.inr rfl) (by simp (disch:=(first | omega | (simp;omega))) only [go_sem,w64];rfl) (by simp (disch:=(first | omega | (simp;omega))) only [go_sem,w64];rfl) (r:=.d (.int (ix xs x.toNat))) (by simp (disch:=(first | omega | (simp;omega))) only [go_sem,w64];exact .refl _) ?_
 exact ⟨_,by rw [ix_lt hk];exact List.getElem_mem _,rfl,rfl⟩
end Go.Proofs.YtkohkoiegmcghaaDoor
namespace Go.Proofs.YtkohkoiegmcghaaDoor
set_option linter.unusedSimpArgs false
set_option linter.unusedVariables false
attribute [local go_sem ↓] reduceIte
attribute [local go_sem] Nat.reduceEqDiff Nat.reduceLT Nat.reduceAdd Nat.reduceLeDiff Nat.reduceMul Nat.reduceBEq Nat.reduceSub reduceCtorEq Int.reduceLE Int.reduceNeg Int.reduceLT
open Go.RowKit
theorem LStep.weak {P:Cx→Prop} {N:Nat} {o:Oper} {s s0:AS} {K:AS→Prop} (h:SLe s s0) (hl:LStep P N o s0 K):LStep P N o s K:=fun X G a w hN hP hr=>by
 obtain ⟨G',hr'⟩:=Rel.weak h ⟨G,hr⟩
 exact hl X G' a w hN hP hr'
theorem ssim_tm {e:Pk} {s s':AS} {x:AV} (t:Nat) (h:SSim e s s') (hx:s.tm t=x):ASim e x (s'.tm t):=hx ▸ h.1 t
theorem ssim_ob {e:Pk} {s s':AS} {l:List AV} (q:Nat) (h:SSim e s s') (hq:s.ob q=some l):∃ l',s'.ob q=some l'∧ASims e l l':=by
 rcases h.2 q with ⟨h1,_⟩ | ⟨l0,l',h1,h2,h3⟩
 ·rw [hq] at h1;cases h1
 ·rw [hq] at h1;cases h1;exact ⟨l',h2,h3⟩
theorem csims_ints {e:Pk}:∀ {l:List Int} {m:List DV},CSims e (l.map .int) m→∃ l':List Int,m=l'.map .int∧l'.length=l.length
 | [],m,h=>by obtain rfl:=h;exact ⟨[],rfl,rfl⟩
 | x :: l,m,h=>by
  obtain ⟨_,m',rfl,⟨z,rfl,_⟩,h2⟩:=h
  obtain ⟨l',rfl,e1⟩:=csims_ints h2
  exact ⟨z :: l',rfl,by simp [e1]⟩
theorem csims_bytes {e:Pk}:∀ {l:List Int} {m:List DV},CSims e (l.map .byte) m→m=l.map .byte
 | [],m,h=>by obtain rfl:=h;rfl
 | x :: l,m,h=>by
  obtain ⟨_,m',rfl,rfl,h2⟩:=h
  rw [csims_bytes h2];rfl
theorem cur_sim {e:Pk} {l:List AV} (h:ASims e curL l):ALes l curL:=by
 obtain ⟨_,_,rfl,rfl,_,_,rfl,rfl,_,_,rfl,rfl,rfl⟩:=h
 refine .cons (.anyP ?_) (.cons (.anyP ?_) (.cons (.anyP ?_) .nil))
 ·rintro y ⟨x,⟨l,rfl⟩,l',rfl,h⟩
  exact ⟨l,by rw [csims_bytes h]⟩
 ·rintro y ⟨x,⟨n,hn,rfl⟩,rfl⟩
  exact ⟨n,hn,rfl⟩
 ·rintro y ⟨x,⟨n,rfl⟩,rfl⟩
  exact ⟨n,rfl⟩
theorem nod_args:∀ x∈[AV.ptr 0 0],NoD x:=by
 intro x hx
 simp only [List.mem_singleton] at hx
 subst hx
 exact nod_ptr 0 0
theorem nod_cur:∀ l∈[curL],∀ x∈l,NoD x:=by
 intro l hl x hx
 simp only [List.mem_singleton] at hl
 subst hl
 simp only [curL,List.mem_cons,List.not_mem_nil,or_false] at hx
 rcases hx with rfl | rfl | rfl
 ·exact nod_anyB fun x h=>h
 ·exact nod_anyI fun x ⟨n,_,e⟩=>⟨n,e⟩
 ·exact nod_anyI fun x h=>h
end Go.Proofs.YtkohkoiegmcghaaDoor
namespace Go.Proofs.YtkohkoiegmcghaaDoor
set_option linter.unusedSimpArgs false
set_option linter.unusedVariables false
open Go.RowKit
theorem RelG.obm {X:Cx} {G:Gh} {s:AS} {a:Act} {w:World} {q:Nat} {l l':List AV} (h:RelG X G s a w) (hq:s.ob q=some l) (h2:∀ us,CVs G w l us→CVs G w l' us):RelG X G (s.setOb q (some l')) a w:=by
 have hs:∀ o,(s.setOb q (some l')).ob o ≠ none→s.ob o ≠ none:=fun o ho e=>by
  by_cases eo:o=q
  ·subst eo;rw [hq] at e;cases e
  ·exact ho (by simp [AS.setOb,eo,e])
 refine ⟨h.fr,h.df,h.n,h.tm,h.bf,fun o l2 ho=>?_,h.cs,h.d1,fun o o' a1 a2=>h.d2 o o' (hs o a1) (hs o' a2),fun o g a1=>h.d3 o g (hs o a1),fun o a1=>h.ow o (hs o a1),h.lc,h.nl,fun i a1=>h.ln i (hs _ a1),h.c0,h.uf⟩
 simp only [AS.setOb] at ho
 split at ho
 ·rename_i e
  subst e
  cases ho
  obtain ⟨g1,g2,us,g3,g4,g5⟩:=h.ob _ l hq
  exact ⟨g1,g2,us,h2 us g3,g4,g5⟩
 ·exact h.ob o l2 ho
theorem cvs_set {G:Gh} {w:World} {x y:AV} (hxy:∀ v,CV G w x v→CV G w y v):∀ {l:List AV} {us:List Value} {i:Nat},l[i]? = some x→CVs G w l us→CVs G w (l.set i y) us
 | [],us,i,h,_=>by simp at h
 | z :: l,us,i,h,hc=>by
  obtain ⟨v,us',rfl,h1,h2⟩:=hc
  cases i with
  | zero=>simp at h;subst h;exact ⟨v,us',rfl,hxy v h1,h2⟩
  | succ i=>exact ⟨v,us',rfl,h1,cvs_set hxy (by simpa using h) h2⟩
theorem awp_nilbufO {P:Cx→Prop} {N:Nat} {Q:Exit→AS→Prop} {s:AS} {c:Code} (q i g:Nat) (T:TypeId) (k:Nat) {l:List AV} (hq:s.ob q=some l) (hi:l[i]? = some .nil)
 (h:AWp P N c Q ((s.newB g).setOb q (some ((scrubs (fun g'=>!(g' == g)) (fun _=>true) l).set i (.buf g T k []))))):AWp P N c Q s:=by
 intro X a w hN hP ⟨G,hr⟩
 have hset:=hr.setBuf (w':=w) (g:=g) (T:=T) (k:=k) (World.grownBy.refl w _) (fun _ _ _ _=>rfl) (fun b j hb' hc=>by obtain ⟨a9,n9,c9,vs9,q1,q2,q3⟩:=hr.bf g;exact hr.uf b j hc (q2.1.lt b (by rw [← q1];exact hb')).1) (ownF_nil T k w X.w0.heap.size) (fun b hb=>by cases hb) (fun _ _=>False) (fun _ _ h=>h.elim) (fun b i hb=>by cases hb)
 refine h X a w hN hP ⟨_,RelG.obm hset (l:=scrubs (fun g'=>!(g' == g)) (fun _=>true) l) ?_ ?_⟩
 ·show (s.ob q).map (List.map (scrub (fun g'=>!(g' == g)) (fun _=>true)))=_
  rw [hq,Option.map_some,scrubs_map]
 ·intro us hu
  refine cvs_set (x:=.nil) (fun v hv=>?_) ?_ hu
  ·simp only [CV] at hv
   subst hv
   exact ⟨by simp,by simp,by simp,cx_whnil _ _ _⟩
  ·rw [scrubs_map,List.getElem?_map,hi];rfl
end Go.Proofs.YtkohkoiegmcghaaDoor
namespace Go.Proofs.YtkohkoiegmcghaaDoor
set_option linter.unusedSimpArgs false
set_option linter.unusedVariables false
attribute [local go_sem ↓] reduceIte
attribute [local go_sem] Nat.reduceEqDiff Nat.reduceLT Nat.reduceAdd Nat.reduceLeDiff Nat.reduceMul Nat.reduceBEq Nat.reduceSub reduceCtorEq Int.reduceLE Int.reduceNeg Int.reduceLT
open Go.RowKit
abbrev P3 (z:Int):Prop:=-3≤z∧z≤3
abbrev Q3 (x:RatD):Prop:=P3 x.num∧P3 x.den
structure LpFit (A:List (List RatD)) (B C:List RatD):Prop where
 a:A.length≤3
 r:∀ r∈A,r.length≤3∧∀ x∈r,Q3 x
 b:B.length≤3
 bq:∀ x∈B,Q3 x
 c:C.length≤3
 cq:∀ x∈C,Q3 x
end Go.Proofs.YtkohkoiegmcghaaDoor
namespace Go.Proofs.YtkohkoiegmcghaaDoor
set_option linter.unusedSimpArgs false
set_option linter.unusedVariables false
open Go.RowKit
def FindV (T n:Nat) (rows:List (List RatD)) (right:List RatD):Prop:=∀ (L:List Nat),L.Sublist (List.range T)→L.length=n→∀ x:Nat→Rat,
 (∀ i∈L,sig (fun k=>qv (qx (mx rows i) k)*x k) n=qv (qx right i))→(∀ d:Nat→Rat,(∀ i∈L,sig (fun k=>qv (qx (mx rows i) k)*d k) n=0)→∀ j,j<n→d j=0)→(∃ l,solF (L.map (mx rows ·)) (L.map (qx right ·))=some l∧l.length=n∧∀ i,i<n→vR (qx l i)=true∧qv (qx l i)=x i)∧∃ (D:Int) (X:Nat→Int),D ≠ 0∧D.natAbs≤34992∧∀ j,j<n→(X j).natAbs≤34992∧x j=(X j:Rat) / (D:Rat)
structure SmallLp (A:List (List RatD)) (B C:List RatD):Prop where
 lp:lpV A B C=true
 la:A.length=B.length
 ra:∀ i,i<B.length→(mx A i).length=C.length∧∀ k,k<C.length→S3 (qx (mx A i) k)
 sb:∀ i,i<B.length→S3 (qx B i)
 sc:∀ i,i<C.length→S3 (qx C i)
 n5:C.length≤5
 find:FindV (B.length+C.length) C.length (rowsF A C.length) (rightF B C.length)
theorem mvTo_at {M:List (List RatD)} {x:List RatD}:∀ {k:Nat} {l:List RatD},mvTo M x k=some l→l.length=k∧∀ i,i<k→dotF (mx M i) x=some (qx l i)
 | 0,l,h=>by simp only [mvTo,Option.some.injEq] at h;subst h;exact ⟨rfl,fun i hi=>absurd hi (Nat.not_lt_zero _)⟩
 | k+1,l,h=>by
  simp only [mvTo] at h
  split at h
  ·rename_i l0 y h1 h2
   simp only [Option.some.injEq] at h
   subst h
   obtain ⟨g1,g2⟩:=mvTo_at h1
   refine ⟨by simp [g1],fun i hi=>?_⟩
   by_cases e:i=k
   ·subst e;rw [h2];simp [qx,List.getD,← g1]
   ·rw [g2 i (by omega)]
    simp [qx,List.getD,List.getElem?_append_left (show i<l0.length by omega)]
  ·cases h
section
variable {A:List (List RatD)} {B Cc:List RatD} {l:List RatD}
theorem feas_out {sg:Int} (hsg:sg=1∨sg = -1) (h:feasF A B Cc l sg=true) (hb:∀ i,i<B.length→vR (qx B i)=true) (hAl:A.length=B.length) (hAr:∀ i,i<B.length→(mx A i).length=Cc.length):l.length=Cc.length∧(∀ i,i<Cc.length→vR (qx l i)=true∧0≤qv (qx l i)) ∧
 ∀ i,i<B.length→if sg=1 then qv (qx B i)≤sig (fun k=>vM A i k*qv (qx l k)) Cc.length else sig (fun k=>vM A i k*qv (qx l k)) Cc.length≤qv (qx B i):=by
 simp only [feasF,Bool.and_eq_true,decide_eq_true_eq] at h
 obtain ⟨_,h1,h2,h3,h4⟩:=h
 split at h4
 ·rename_i r hr
  obtain ⟨g1,g2⟩:=mvTo_at hr
  have hv:∀ i,i<Cc.length→vR (qx l i)=true:=fun i hi=>vL_at h2 (by omega)
  have hs:∀ i,i<B.length→vR (qx r i)=true∧qv (qx r i)=sig (fun k=>vM A i k*qv (qx l k)) Cc.length:=fun i hi=>by
   obtain ⟨_,k2,k3⟩:=dotF_sig (g2 i (by omega))
   rw [hAr i hi] at k3
   exact ⟨k2,k3⟩
  refine ⟨h1,fun i hi=>⟨hv i hi,(qv_nonneg (hv i hi)).2 (of_decide_eq_true (List.all_eq_true.1 h3 i (List.mem_range.2 (by omega))))⟩,fun i hi=>?_⟩
  rcases hsg with rfl | rfl
  ·rw [if_pos rfl]
   have:=(sideL_ge (fun i hi=>⟨(hs i (by omega)).1,hb i (by omega)⟩)).1 h4 i (by omega)
   rw [← (hs i hi).2];exact this
  ·rw [if_neg (by decide)]
   have:=(sideL_le (fun i hi=>⟨(hs i (by omega)).1,hb i (by omega)⟩)).1 h4 i (by omega)
   rw [← (hs i hi).2];exact this
 ·cases h4
variable (hS:SmallLp A B Cc)
include hS
theorem SmallLp.vb {i:Nat} (hi:i<B.length):vR (qx B i)=true:=(hS.sb i hi).1
theorem SmallLp.feas {sg:Int} (hsg:sg=1∨sg = -1) {x:Nat→Rat} {D:Int} {X:Nat→Int} (hl:l.length=Cc.length) (hv:∀ i,i<Cc.length→vR (qx l i)=true∧qv (qx l i)=x i) (hD:D ≠ 0) (hDb:D.natAbs≤34992) (hX:∀ k,k<Cc.length→(X k).natAbs≤34992∧x k=(X k:Rat) / (D:Rat))
 (hp:∀ j,j<Cc.length→0≤x j) (hs:∀ i,i<B.length→if sg=1 then qv (qx B i)≤sig (fun k=>vM A i k*x k) Cc.length else sig (fun k=>vM A i k*x k) Cc.length≤qv (qx B i)):feasF A B Cc l sg=true:=by
 obtain ⟨s,e,h⟩:=mv_fits (M:=A) (x:=l) hS.n5 (fun i hi=>(hS.ra i (by have:=hS.la;omega)).1) hl (fun i hi=>(hS.ra i (by have:=hS.la;omega)).2) (fun k hk=>(hv k hk).1) hD hDb (fun k hk=>⟨(hX k hk).1,by rw [(hv k hk).2];exact (hX k hk).2⟩)
 have hla:=hS.la
 have h2:∀ i,i<B.length→qv (s i)=sig (fun k=>vM A i k*x k) Cc.length:=fun i hi=>by
  rw [(h i (by omega)).2]
  exact sig_congr fun k hk=>by rw [(hv k hk).2];rfl
 have hq:∀ i,i<A.length→qx ((List.range A.length).map s) i=s i:=fun i hi=>by simp [qx,List.getD,hi]
 simp only [feasF,Bool.and_eq_true,decide_eq_true_eq]
 refine ⟨hS.lp,hl,vL_yes fun j hj=>(hv j (by omega)).1,posL_of fun i hi=>⟨(hv i (by omega)).1,by rw [(hv i (by omega)).2];exact hp i (by omega)⟩,?_⟩
 rw [e]
 have hval:∀ i,i<((List.range A.length).map s).length→vR (qx ((List.range A.length).map s) i)=true∧vR (qx B i)=true:=fun i hi=>by
  have hi':i<A.length:=by simpa using hi
  rw [hq i hi']
  exact ⟨(h i hi').1,hS.vb (by omega)⟩
 rcases hsg with rfl | rfl
 ·refine (sideL_ge hval).2 fun i hi=>?_
  have hi':i<A.length:=by simpa using hi
  rw [hq i hi',h2 i (by omega)]
  have:=hs i (by omega)
  rwa [if_pos rfl] at this
 ·refine (sideL_le hval).2 fun i hi=>?_
  have hi':i<A.length:=by simpa using hi
  rw [hq i hi',h2 i (by omega)]
  have:=hs i (by omega)
  rwa [if_neg (by decide)] at this
theorem SmallLp.vertex {sg:Int} (hsg:sg=1∨sg = -1) {x:Nat→Rat} {L:List Nat} (hL:L.Sublist (List.range (B.length+Cc.length))) (hl:L.length=Cc.length)
 (ht:∀ i∈L,sig (fun j=>gR B.length (vM A) i j*x j) Cc.length=hR B.length (fun i=>qv (qx B i)) i) (hn:∀ d:Nat→Rat,(∀ i∈L,sig (fun j=>gR B.length (vM A) i j*d j) Cc.length=0)→∀ j,j<Cc.length→d j=0)
 (hp:∀ j,j<Cc.length→0≤x j) (hs:∀ i,i<B.length→if sg=1 then qv (qx B i)≤sig (fun k=>vM A i k*x k) Cc.length else sig (fun k=>vM A i k*x k) Cc.length≤qv (qx B i)) :
 ∃ y∈vertF A B Cc sg,(y.length=Cc.length∧∀ i,i<Cc.length→vR (qx y i)=true∧qv (qx y i)=x i)∧(∃ (D:Int) (X:Nat→Int),D ≠ 0∧D.natAbs≤34992∧∀ j,j<Cc.length→(X j).natAbs≤34992∧x j=(X j:Rat) / (D:Rat))∧∃ s,dotF Cc y=some s∧qv s=sig (fun k=>qv (qx Cc k)*x k) Cc.length:=by
 have hr:=rows_s3 (n:=Cc.length) hS.la (fun i hi=>hS.ra i (by have:=hS.la;omega)) hS.sb
 have hmem:∀ i∈L,i<B.length+Cc.length:=fun i hi=>List.mem_range.1 (hL.subset hi)
 obtain ⟨⟨l,hsol,hll,hv⟩,D,X,hD,hDb,hX⟩:=hS.find L hL hl x (fun i hi=>by
  obtain ⟨_,e1,e2⟩:=hr i (hmem i hi)
  rw [e2,← ht i hi]
  exact sig_congr fun k hk=>by rw [e1 k hk];rfl) (fun d hd=>hn d fun i hi=>by
  obtain ⟨_,e1,_⟩:=hr i (hmem i hi)
  rw [← hd i hi]
  exact sig_congr fun k hk=>by rw [e1 k hk];rfl)
 have hf:=hS.feas hsg hll hv hD hDb hX hp hs
 obtain ⟨y,hy,hyl,hyq⟩:=foldl_leaf (A:=A) (B:=B) (Cc:=Cc) (sg:=sg) hsol hf (pickF (B.length+Cc.length) Cc.length 0) [] (mem_pick _ _ 0 _ (by rw [Nat.sub_zero,← List.range_eq_range'];exact hL) hl)
 rw [← vert_pick hS.lp] at hy
 have hyv:∀ i,i<Cc.length→vR (qx y i)=true∧qv (qx y i)=x i:=fun i hi=>by rw [hyq i (by omega)];exact hv i hi
 obtain ⟨s,e,hsv,w,hw,hq⟩:=dot_fits (a:=Cc) (x:=y) hS.n5 rfl (by omega) hS.sc (fun k hk=>(hyv k hk).1) hD hDb (fun k hk=>⟨(hX k hk).1,by rw [(hyv k hk).2];exact (hX k hk).2⟩) Cc.length (Nat.le_refl _)
 have hdot:dotF Cc y=some s:=by unfold dotF;rw [if_pos (by omega)];exact e
 refine ⟨y,hy,⟨by omega,hyv⟩,⟨D,X,hD,hDb,hX⟩,s,hdot,?_⟩
 obtain ⟨_,_,h3⟩:=dotF_sig hdot
 rw [h3]
 exact sig_congr fun k hk=>by rw [(hyv k hk).2]
end
section
variable {A:List (List RatD)} {B Cc:List RatD}
abbrev vL' (l:List RatD) (i:Nat):Rat:=qv (qx l i)
theorem best_dot {sg:Int} {C:List RatD} {V:List (List RatD)} (hsg:sg=1∨sg = -1) {y:List RatD} (hy:y∈V) {s:RatD} (hs:dotF C y=some s):(bestF C V sg).found=true∧(bestF C V sg).pt∈V∧dotF C (bestF C V sg).pt=some (bestF C V sg).val∧if sg=1 then qv (bestF C V sg).val≤qv s else qv s≤qv (bestF C V sg).val:=by
 obtain ⟨h1,h2⟩:=bestF_ok C V hsg
 obtain ⟨h3,h4⟩:=h2 y hy s hs
 obtain ⟨h5,h6⟩:=h1 h3
 refine ⟨h3,h5,h6,?_⟩
 rcases hsg with rfl | rfl
 ·rw [if_pos rfl];exact (cmpQ_ge (dotF_v hs) (dotF_v h6)).1 h4
 ·rw [if_neg (by decide)];exact (cmpQ_le (dotF_v hs) (dotF_v h6)).1 h4
theorem SmallLp.min (hS:SmallLp A B Cc) {x0 y0:Nat→Rat} (hx:FeasP B.length Cc.length (vM A) (vL' B) x0) (hy:FeasD B.length Cc.length (vM A) (vL' Cc) y0) :
 (bestF Cc (vertF A B Cc 1) 1).found=true∧feasF A B Cc (bestF Cc (vertF A B Cc 1) 1).pt 1=true∧dotF Cc (bestF Cc (vertF A B Cc 1) 1).pt=some (bestF Cc (vertF A B Cc 1) 1).val∧∃ y,FeasD B.length Cc.length (vM A) (vL' Cc) y∧qv (bestF Cc (vertF A B Cc 1) 1).val=sig (fun i=>vL' B i*y i) B.length:=by
 obtain ⟨x,y,L,h1,h2,h3,h4,h5,h6,h7⟩:=opt_vertex _ _ _ _ _ hx hy
 obtain ⟨p,hp,⟨_,hpv⟩,_,s,hs,hsv⟩:=hS.vertex (.inl rfl) h4 h5 h6 h7 h1.1 (fun i hi=>by rw [if_pos rfl];exact h1.2 i hi)
 obtain ⟨g1,g2,g3,g4⟩:=best_dot (.inl rfl) hp hs
 have hf:=vert_feas hS.lp _ g2
 refine ⟨g1,hf,g3,y,h2,?_⟩
 rw [if_pos rfl] at g4
 generalize bestF Cc (vertF A B Cc 1) 1=b at *
 obtain ⟨k1,k2,k3⟩:=feas_out (.inl rfl) hf (fun i hi=>hS.vb hi) hS.la (fun i hi=>(hS.ra i hi).1)
 have hw:=weak_dual (b:=vL' B) (c:=vL' Cc) (x:=vL' b.pt) (fun i hi=>by have:=k3 i hi;rwa [if_pos rfl] at this) h2.2 (fun j hj=>(k2 j hj).2) h2.1
 obtain ⟨_,_,e⟩:=dotF_sig g3
 have:sig (fun k=>qv (qx Cc k)*x k) Cc.length=sig (fun j=>vL' Cc j*x j) Cc.length:=rfl
 have:sig (fun i=>qv (qx Cc i)*qv (qx b.pt i)) Cc.length=sig (fun j=>vL' Cc j*vL' b.pt j) Cc.length:=rfl
 grind
theorem sig_neg (f:Nat→Rat) (n:Nat):sig (fun i=>- f i) n = - sig f n:=by
 have:sig (fun i=>- f i) n=sig (fun i=>(-1)*f i) n:=sig_congr fun i _=>by grind
 rw [this,sig_mul];grind
theorem sig_negL (f g:Nat→Rat) (n:Nat):sig (fun i=>- f i*g i) n = - sig (fun i=>f i*g i) n:=by
 rw [← sig_neg];exact sig_congr fun i _=>by grind
theorem SmallLp.max (hS:SmallLp A B Cc) {x0 y0:Nat→Rat} (h0:∀ j,j<Cc.length→0≤x0 j) (hx:∀ i,i<B.length→sig (fun k=>vM A i k*x0 k) Cc.length≤vL' B i) (h0':∀ i,i<B.length→0≤y0 i) (hy:∀ j,j<Cc.length→vL' Cc j≤sig (fun i=>vM A i j*y0 i) B.length) :
 (bestF Cc (vertF A B Cc (-1)) (-1)).found=true∧feasF A B Cc (bestF Cc (vertF A B Cc (-1)) (-1)).pt (-1)=true∧dotF Cc (bestF Cc (vertF A B Cc (-1)) (-1)).pt=some (bestF Cc (vertF A B Cc (-1)) (-1)).val∧∃ y:Nat→Rat,(∀ i,i<B.length→0≤y i)∧(∀ j,j<Cc.length→vL' Cc j≤sig (fun i=>vM A i j*y i) B.length)∧qv (bestF Cc (vertF A B Cc (-1)) (-1)).val=sig (fun i=>vL' B i*y i) B.length:=by
 obtain ⟨x,y,L,h1,h2,h3,h4,h5,h6,h7⟩:=opt_vertex B.length Cc.length (fun i j=>- vM A i j) (fun i=>- vL' B i) (fun j=>- vL' Cc j) (x0:=x0) (y0:=y0)
  ⟨h0,fun i hi=>by rw [sig_negL];have:=hx i hi;grind⟩ ⟨h0',fun j hj=>by rw [sig_negL];have:=hy j hj;grind⟩
 have hg:∀ (i:Nat) (d:Nat→Rat),sig (fun j=>gR B.length (fun i j=>- vM A i j) i j*d j) Cc.length=if i<B.length then - sig (fun j=>gR B.length (vM A) i j*d j) Cc.length else sig (fun j=>gR B.length (vM A) i j*d j) Cc.length:=fun i d=>by
  split
  ·rename_i h
   rw [gR_lo _ _ _ h,gR_lo _ _ _ h,sig_negL]
  ·rename_i h
   exact sig_congr fun k _=>by simp only [gR,h,if_false]
 have hh:∀ i:Nat,hR B.length (fun i=>- vL' B i) i=if i<B.length then - hR B.length (vL' B) i else hR B.length (vL' B) i:=fun i=>by
  unfold hR;split <;> rfl
 obtain ⟨p,hp,⟨_,hpv⟩,_,s,hs,hsv⟩:=hS.vertex (.inr rfl) h4 h5 (fun i hi=>by
  have:=h6 i hi
  rw [hg,hh] at this
  split at this
  ·have:=congrArg Neg.neg this;rwa [Rat.neg_neg,Rat.neg_neg] at this
  ·exact this) (fun d hd=>h7 d fun i hi=>by
  rw [hg,hd i hi];split <;> grind) h1.1 (fun i hi=>by rw [if_neg (by decide)];have:=h1.2 i hi;rw [sig_negL] at this;have e:qv (qx B i)=vL' B i:=rfl;grind)
 obtain ⟨g1,g2,g3,g4⟩:=best_dot (.inr rfl) hp hs
 have hf:=vert_feas hS.lp _ g2
 have d2:∀ j,j<Cc.length→vL' Cc j≤sig (fun i=>vM A i j*y i) B.length:=fun j hj=>by have:=h2.2 j hj;rw [sig_negL] at this;grind
 refine ⟨g1,hf,g3,y,h2.1,d2,?_⟩
 rw [if_neg (by decide)] at g4
 generalize bestF Cc (vertF A B Cc (-1)) (-1)=b at *
 obtain ⟨k1,k2,k3⟩:=feas_out (.inr rfl) hf (fun i hi=>hS.vb hi) hS.la (fun i hi=>(hS.ra i hi).1)
 have hw:=weak_dual (m:=Cc.length) (n:=B.length) (A:=fun j i=>vM A i j) (b:=vL' Cc) (c:=vL' B) (x:=y) (y:=vL' b.pt) d2 (fun i hi=>by have:=k3 i hi;rwa [if_neg (by decide)] at this) h2.1 (fun j hj=>(k2 j hj).2)
 obtain ⟨_,_,e⟩:=dotF_sig g3
 have:sig (fun k=>qv (qx Cc k)*x k) Cc.length=sig (fun j=>vL' Cc j*x j) Cc.length:=rfl
 have:sig (fun i=>qv (qx Cc i)*qv (qx b.pt i)) Cc.length=sig (fun j=>vL' Cc j*vL' b.pt j) Cc.length:=rfl
 rw [sig_negL,sig_negL] at h3
 grind
end
theorem opt_same {m n:Nat} {A:Nat→Nat→Rat} {b c x y x' y':Nat→Rat} (h1:FeasP m n A b x) (h2:FeasD m n A c y) (e1:sig (fun j=>c j*x j) n=sig (fun i=>b i*y i) m) (h3:FeasP m n A b x') (h4:FeasD m n A c y') (e2:sig (fun i=>b i*y' i) m=sig (fun j=>c j*x' j) n):sig (fun j=>c j*x j) n=sig (fun i=>b i*y' i) m:=by
 have w1:=weak_dual h1.2 h4.2 h1.1 h4.1
 have w2:=weak_dual h3.2 h2.2 h3.1 h2.1
 grind
theorem mem_qx {l:List RatD} {i:Nat} (h:i<l.length):qx l i∈l:=by simp [qx,List.getD,h]
section
variable {A:List (List RatD)} {B C:List RatD}
theorem trq_len (A:List (List RatD)) (n:Nat):(trQ A n).length=n:=by simp [trQ]
theorem tr_row {A:List (List RatD)} {n k:Nat} (h:k<n):mx (trQ A n) k=A.map fun r=>qx r k:=by simp [trQ,mx,List.getD,h]
theorem tr_at {A:List (List RatD)} {n k i:Nat} (h:k<n) (hi:i<A.length):qx (mx (trQ A n) k) i=qx (mx A i) k:=by rw [tr_row h];simp [qx,mx,List.getD,hi]
theorem tr_lp (hlp:lpV A B C=true):lpV (trQ A C.length) C B=true:=by
 obtain ⟨⟨c1,c2⟩,⟨b1,b2⟩,hm,hb,hc⟩:=lpV_out hlp
 obtain ⟨m1,m2⟩:=matOK_out hm
 simp only [lpV,Bool.and_eq_true]
 refine ⟨decide_eq_true (by omega),decide_eq_true (by omega),?_,hc,hb⟩
 simp only [matOK,Bool.and_eq_true]
 refine ⟨decide_eq_true (trq_len _ _),matOK_rows fun j hj=>?_⟩
 rw [trq_len] at hj
 simp only [rowV,Bool.and_eq_true]
 refine ⟨decide_eq_true (by rw [tr_row hj,List.length_map];exact m1),vL_yes fun i hi=>?_⟩
 have hi':i<A.length:=by rw [tr_row hj,List.length_map] at hi;exact hi
 rw [tr_at hj hi']
 exact vL_at (m2 i hi').2 (by rw [(m2 i hi').1];exact hj)
theorem tr_vM (hm:A.length=B.length) {k i:Nat} (hk:k<C.length) (hi:i<B.length):vM (trQ A C.length) k i=vM A i k:=by unfold vM;rw [tr_at hk (by omega)]
theorem dual_val (hS:SmallLp A B C) (hT:SmallLp (trQ A C.length) C B) {x0 y0:Nat→Rat} (hx:FeasP B.length C.length (vM A) (vL' B) x0) (hy:FeasD B.length C.length (vM A) (vL' C) y0) :
 (bestF C (vertF A B C 1) 1).found=true∧(bestF B (vertF (trQ A C.length) C B (-1)) (-1)).found=true∧qv (bestF C (vertF A B C 1) 1).val=qv (bestF B (vertF (trQ A C.length) C B (-1)) (-1)).val∧vR (bestF C (vertF A B C 1) 1).val=true∧vR (bestF B (vertF (trQ A C.length) C B (-1)) (-1)).val=true:=by
 have hla:=hS.la
 obtain ⟨f1,f2,f3,y,f4,f5⟩:=hS.min hx hy
 obtain ⟨g1,g2,g3,x,g4,g5,g6⟩:=hT.max (x0:=y0) (y0:=x0) hy.1 (fun j hj=>by
  have:=hy.2 j hj
  rwa [sig_congr fun i hi=>by rw [← tr_vM (A:=A) (C:=C) (B:=B) hla hj hi]] at this) hx.1 (fun i hi=>by
  have:=hx.2 i hi
  rwa [sig_congr fun j hj=>by rw [← tr_vM (A:=A) (C:=C) (B:=B) hla hj hi]] at this)
 refine ⟨f1,g1,?_,dotF_v f3,dotF_v g3⟩
 obtain ⟨_,a2,a3⟩:=feas_out (.inl rfl) f2 (fun i hi=>hS.vb hi) hS.la (fun i hi=>(hS.ra i hi).1)
 obtain ⟨_,b2,b3⟩:=feas_out (.inr rfl) g2 (fun i hi=>hT.vb hi) hT.la (fun i hi=>(hT.ra i hi).1)
 obtain ⟨_,_,ev⟩:=dotF_sig f3
 obtain ⟨_,_,eu⟩:=dotF_sig g3
 generalize bestF C (vertF A B C 1) 1=p at *
 generalize bestF B (vertF (trQ A C.length) C B (-1)) (-1)=q at *
 have k1:FeasP B.length C.length (vM A) (vL' B) (vL' p.pt):=⟨fun j hj=>(a2 j hj).2,fun i hi=>by have:=a3 i hi;rwa [if_pos rfl] at this⟩
 have k4:FeasD B.length C.length (vM A) (vL' C) (vL' q.pt):=⟨fun i hi=>(b2 i hi).2,fun j hj=>by
  have:=b3 j hj
  rw [if_neg (by decide)] at this
  rwa [sig_congr fun i hi=>by rw [tr_vM (A:=A) (C:=C) (B:=B) hla hj hi]] at this⟩
 have k3:FeasP B.length C.length (vM A) (vL' B) x:=⟨g4,fun i hi=>by
  have:=g5 i hi
  rwa [sig_congr fun j hj=>by rw [tr_vM (A:=A) (C:=C) (B:=B) hla hj hi]] at this⟩
 have:=opt_same k1 f4 (by rw [← f5,ev]) k3 k4 (by rw [← g6,eu])
 rw [ev,eu];exact this
end
end Go.Proofs.YtkohkoiegmcghaaDoor
