/- Lemmas for the proof of FnIteration, part 23 of 24: no condition of their own. -/
import Derived.Test.YtfobmfngbfbfdaaJ21
import Derived.Test.YtfobmfngbfbfdaaJ22
namespace Go.Proofs.Ytfobmfngbfbfdaa
set_option linter.unusedSimpArgs false
set_option linter.unusedVariables false
attribute [local go_sem ↓] reduceIte
attribute [local go_sem] Nat.reduceEqDiff Nat.reduceLT Nat.reduceAdd Nat.reduceLeDiff Nat.reduceMul Nat.reduceBEq Nat.reduceSub reduceCtorEq Int.reduceLE Int.reduceNeg Int.reduceLT
open Go.RowKit
theorem eqIt_selfI (ar:Int) (rows:List (List Int)) (lw gh ps:List Int):eqIt ar ar rows rows lw lw gh gh ps ps=true:=by
 simp [eqIt,eqT,eqL]
set_option maxHeartbeats 8000000 in
theorem lawIterA (code:List Int) (hl:code.length≤9223372036854775807):AFn 4 [.d (.sl 1 (code.map .byte))] [] (fun r os=>r=.d (.bool true)∧os=[]):=by
 refine afn_of (rv:=[.tmp 2]) tyT_ok Try.func4 rfl (by decide +kernel) Try.ntmps4 rfl (by simp) ?_
 by_cases hb:(1048576:Int)<(code.length:Nat)
 ·repeat' (first | refine sq ?_ | refine stp ?_ | refine blk_o (by decide) ?_ | (apply cb;(focus (simp (disch:=(first | omega | (simp;omega))) only [go_sem,w64];try exact rfl));refine cok ?_) | (refine rgT ?_;intro K hK) | (refine dA ?_;intro K hK) | (with_reducible refine hK _ ?_;clear hK K) | (refine stq ?_;simp (disch:=(first | omega | (simp;omega))) only [go_sem,w64]) | refine as1 ?_ | fail)
  (first | refine callA (bigA code hl) ?_ | refine callD (bigA code hl) ?_ | refine callE (bigA code hl) ?_ | refine callF (bigA code hl) ?_ ?_)
  repeat' (first | refine sq ?_ | refine stp ?_ | refine blk_o (by decide) ?_ | (apply cb;(focus (simp (disch:=(first | omega | (simp;omega))) only [go_sem,w64,hb];try exact rfl));refine cok ?_) | (refine rgT ?_;intro K hK) | (refine dA ?_;intro K hK) | (with_reducible refine hK _ ?_;clear hK K) | (refine stq ?_;simp (disch:=(first | omega | (simp;omega))) only [go_sem,w64,hb]) | refine as1 ?_ | fail)
  (refine endA (r:=.d (.bool true)) ?_)
  exact ⟨rfl,rfl⟩
 have hb':(1048576:Int)<(code.length:Nat)↔False:=iff_of_false hb id
 have hc:code.length≤1048576:=by omega
 repeat' (first | refine sq ?_ | refine stp ?_ | refine blk_o (by decide) ?_ | (apply cb;(focus (simp (disch:=(first | omega | (simp;omega))) only [go_sem,w64];try exact rfl));refine cok ?_) | (refine rgT ?_;intro K hK) | (refine dA ?_;intro K hK) | (with_reducible refine hK _ ?_;clear hK K) | (refine stq ?_;simp (disch:=(first | omega | (simp;omega))) only [go_sem,w64]) | refine as1 ?_ | fail)
 (first | refine callA (bigA code hl) ?_ | refine callD (bigA code hl) ?_ | refine callE (bigA code hl) ?_ | refine callF (bigA code hl) ?_ ?_)
 repeat' (first | refine sq ?_ | refine stp ?_ | refine blk_o (by decide) ?_ | (apply cb;(focus (simp (disch:=(first | omega | (simp;omega))) only [go_sem,w64,hb'];try exact rfl));refine cok ?_) | (refine rgT ?_;intro K hK) | (refine dA ?_;intro K hK) | (with_reducible refine hK _ ?_;clear hK K) | (refine stq ?_;simp (disch:=(first | omega | (simp;omega))) only [go_sem,w64,hb']) | refine as1 ?_ | fail)
 refine callE (drawOpenA code hc) ?_
 rintro r os ⟨⟨ar,rows,lw,gh,ps,hA,rfl⟩,rfl⟩
 refine ⟨by decide,?_⟩
 have hsz:=hA.sz
 have hV1:=implValidItA ar rows lw gh ps
 have hV2:=specValidItA ar rows lw gh ps
 have hne:(validIt ar rows lw gh ps != validIt ar rows lw gh ps)=false:=by simp
 have hO1:=implOpenA ar rows lw gh ps hsz
 have hO2:=specOpenA ar rows lw gh ps hsz
 have hE0:=specEqItA ar rows lw gh ps ar rows lw gh ps
 have hE1:=implEqItA ar rows lw gh ps ar rows lw gh ps
 rw [eqIt_selfI] at hE0 hE1
 cases hok:opOK ar rows lw gh ps with
 | false =>
  simp only [hok,opT_no] at hO1 hO2
  repeat' (first | refine sq ?_ | refine stp ?_ | refine blk_o (by decide) ?_ | (apply cb;(focus (simp (disch:=(first | omega | (simp;omega))) only [go_sem,w64];try exact rfl));refine cok ?_) | (refine rgT ?_;intro K hK) | (refine dA ?_;intro K hK) | (with_reducible refine hK _ ?_;clear hK K) | (refine stq ?_;simp (disch:=(first | omega | (simp;omega))) only [go_sem,w64]) | refine as1 ?_ | fail)
  (first | refine callA (hO1) ?_ | refine callD (hO1) ?_ | refine callE (hO1) ?_ | refine callF (hO1) ?_ ?_)
  repeat' (first | refine sq ?_ | refine stp ?_ | refine blk_o (by decide) ?_ | (apply cb;(focus (simp (disch:=(first | omega | (simp;omega))) only [go_sem,w64];try exact rfl));refine cok ?_) | (refine rgT ?_;intro K hK) | (refine dA ?_;intro K hK) | (with_reducible refine hK _ ?_;clear hK K) | (refine stq ?_;simp (disch:=(first | omega | (simp;omega))) only [go_sem,w64]) | refine as1 ?_ | fail)
  (first | refine callA (hO2) ?_ | refine callD (hO2) ?_ | refine callE (hO2) ?_ | refine callF (hO2) ?_ ?_)
  repeat' (first | refine sq ?_ | refine stp ?_ | refine blk_o (by decide) ?_ | (apply cb;(focus (simp (disch:=(first | omega | (simp;omega))) only [go_sem,w64];try exact rfl));refine cok ?_) | (refine rgT ?_;intro K hK) | (refine dA ?_;intro K hK) | (with_reducible refine hK _ ?_;clear hK K) | (refine stq ?_;simp (disch:=(first | omega | (simp;omega))) only [go_sem,w64]) | refine as1 ?_ | fail)
  (first | refine callA (hV1) ?_ | refine callD (hV1) ?_ | refine callE (hV1) ?_ | refine callF (hV1) ?_ ?_)
  repeat' (first | refine sq ?_ | refine stp ?_ | refine blk_o (by decide) ?_ | (apply cb;(focus (simp (disch:=(first | omega | (simp;omega))) only [go_sem,w64];try exact rfl));refine cok ?_) | (refine rgT ?_;intro K hK) | (refine dA ?_;intro K hK) | (with_reducible refine hK _ ?_;clear hK K) | (refine stq ?_;simp (disch:=(first | omega | (simp;omega))) only [go_sem,w64]) | refine as1 ?_ | fail)
  (first | refine callA (hV2) ?_ | refine callD (hV2) ?_ | refine callE (hV2) ?_ | refine callF (hV2) ?_ ?_)
  repeat' (first | refine sq ?_ | refine stp ?_ | refine blk_o (by decide) ?_ | (apply cb;(focus (simp (disch:=(first | omega | (simp;omega))) only [go_sem,w64,hne];try exact rfl));refine cok ?_) | (refine rgT ?_;intro K hK) | (refine dA ?_;intro K hK) | (with_reducible refine hK _ ?_;clear hK K) | (refine stq ?_;simp (disch:=(first | omega | (simp;omega))) only [go_sem,w64,hne]) | refine as1 ?_ | fail)
  (first | refine callA (hE0) ?_ | refine callD (hE0) ?_ | refine callE (hE0) ?_ | refine callF (hE0) ?_ ?_)
  repeat' (first | refine sq ?_ | refine stp ?_ | refine blk_o (by decide) ?_ | (apply cb;(focus (simp (disch:=(first | omega | (simp;omega))) only [go_sem,w64];try exact rfl));refine cok ?_) | (refine rgT ?_;intro K hK) | (refine dA ?_;intro K hK) | (with_reducible refine hK _ ?_;clear hK K) | (refine stq ?_;simp (disch:=(first | omega | (simp;omega))) only [go_sem,w64]) | refine as1 ?_ | fail)
  (refine endA (r:=.d (.bool true)) ?_)
  exact ⟨rfl,rfl⟩
 | true =>
  have hop:=op_of hok
  simp only [hok,opT_yes] at hO1 hO2
  obtain ⟨r1,r2⟩:=bnd_rng hop
  have hg0:GStart rows ps.length (bnd rows ps ps.length).1 (bnd rows ps ps.length).2 (bnd rows ps ps.length).1:=⟨⟨Nat.le_refl _,r1⟩,fun c=>by omega⟩
  obtain ⟨v1,v2,v3,v4,v5⟩:=validIt_out hop.v
  have hcl:=close_open hop hg0
  have hP1:=specPathA ar rows lw gh ps (by have:=hA.n;omega)
  have hCh:=specChildA ar rows (pathF ar rows lw gh ps) (by have:=hA.len;omega)
  have hwant:=want_eq hop
  have hvo:=fun p hg=>valid_open hop (p:=p) hg
  have hao:=fun p hg=>at_open hop (p:=p) hg
  have hno:=fun p hg=>next_open hop (p:=p) hg
  have hpe:=path_end hop
  have hpl:=pathF_len ar rows lw gh ps
  rw [hwant] at hCh
  generalize hlo:(bnd rows ps ps.length).1=lo at *
  generalize hhi:(bnd rows ps ps.length).2=hi at *
  have hll:(lw ++ [(lo:Int)]).length≤11:=by have:=hA.l1;simp;omega
  have hgl:(gh ++ [(hi:Int)]).length≤11:=by have:=hA.l2;simp;omega
  have hszp:∀ p:Nat,szIter rows (lw ++ [(lo:Int)]) (gh ++ [(hi:Int)]) (ps ++ [(p:Int)])≤1048576:=fun p=>by
   have:=rows_sz hA.len hA.row
   have hpl2:(ps ++ [(p:Int)]).length≤11:=by have:=hA.n;simp;omega
   unfold szIter;omega
  have hCl:=implCloseA ar rows (lw ++ [(lo:Int)]) (gh ++ [(hi:Int)]) (ps ++ [(lo:Int)]) (hszp lo)
  rw [hcl,clT_snoc lw _ (by simp [v2]),clT_snoc gh _ (by simp [v3]),clT_snoc ps _ (by simp)] at hCl
  have hlw:(chTo (fun i=>kx rows (lo+i) ps.length) (hi - lo)).length≤5000:=by
   have:=chTo_len (fun i=>kx rows (lo+i) ps.length) (hi - lo)
   have:=hA.len;omega
  have hmono:∀ a b,a≤b→(chTo (fun i=>kx rows (lo+i) ps.length) a).length≤(chTo (fun i=>kx rows (lo+i) ps.length) b).length:=fun a b hab=>by
   induction b with
   | zero=>rw [show a=0 by omega];exact Nat.le_refl _
   | succ b ih =>
    by_cases e:a=b+1
    ·rw [e];exact Nat.le_refl _
    ·refine Nat.le_trans (ih (by omega)) ?_
     simp only [chTo]
     split
     ·simp
     ·exact Nat.le_refl _
  obtain ⟨f,hf⟩:∃ f,(fun i=>kx rows (lo+i) ps.length)=f:=⟨_,rfl⟩
  simp only [hf] at hCh hno hlw hmono
  clear hwant hf
  generalize hlw2:lw ++ [(lo:Int)]=lw2 at *
  generalize hgh2:gh ++ [(hi:Int)]=gh2 at *
  repeat' (first | refine sq ?_ | refine stp ?_ | refine blk_o (by decide) ?_ | (apply cb;(focus (simp (disch:=(first | omega | (simp;omega))) only [go_sem,w64];try exact rfl));refine cok ?_) | (refine rgT ?_;intro K hK) | (refine dA ?_;intro K hK) | (with_reducible refine hK _ ?_;clear hK K) | (refine stq ?_;simp (disch:=(first | omega | (simp;omega))) only [go_sem,w64]) | refine as1 ?_ | fail)
  (first | refine callA (hO1) ?_ | refine callD (hO1) ?_ | refine callE (hO1) ?_ | refine callF (hO1) ?_ ?_)
  repeat' (first | refine sq ?_ | refine stp ?_ | refine blk_o (by decide) ?_ | (apply cb;(focus (simp (disch:=(first | omega | (simp;omega))) only [go_sem,w64];try exact rfl));refine cok ?_) | (refine rgT ?_;intro K hK) | (refine dA ?_;intro K hK) | (with_reducible refine hK _ ?_;clear hK K) | (refine stq ?_;simp (disch:=(first | omega | (simp;omega))) only [go_sem,w64]) | refine as1 ?_ | fail)
  (first | refine callA (hO2) ?_ | refine callD (hO2) ?_ | refine callE (hO2) ?_ | refine callF (hO2) ?_ ?_)
  repeat' (first | refine sq ?_ | refine stp ?_ | refine blk_o (by decide) ?_ | (apply cb;(focus (simp (disch:=(first | omega | (simp;omega))) only [go_sem,w64];try exact rfl));refine cok ?_) | (refine rgT ?_;intro K hK) | (refine dA ?_;intro K hK) | (with_reducible refine hK _ ?_;clear hK K) | (refine stq ?_;simp (disch:=(first | omega | (simp;omega))) only [go_sem,w64]) | refine as1 ?_ | fail)
  (first | refine callA (hV1) ?_ | refine callD (hV1) ?_ | refine callE (hV1) ?_ | refine callF (hV1) ?_ ?_)
  repeat' (first | refine sq ?_ | refine stp ?_ | refine blk_o (by decide) ?_ | (apply cb;(focus (simp (disch:=(first | omega | (simp;omega))) only [go_sem,w64];try exact rfl));refine cok ?_) | (refine rgT ?_;intro K hK) | (refine dA ?_;intro K hK) | (with_reducible refine hK _ ?_;clear hK K) | (refine stq ?_;simp (disch:=(first | omega | (simp;omega))) only [go_sem,w64]) | refine as1 ?_ | fail)
  (first | refine callA (hV2) ?_ | refine callD (hV2) ?_ | refine callE (hV2) ?_ | refine callF (hV2) ?_ ?_)
  repeat' (first | refine sq ?_ | refine stp ?_ | refine blk_o (by decide) ?_ | (apply cb;(focus (simp (disch:=(first | omega | (simp;omega))) only [go_sem,w64,hne];try exact rfl));refine cok ?_) | (refine rgT ?_;intro K hK) | (refine dA ?_;intro K hK) | (with_reducible refine hK _ ?_;clear hK K) | (refine stq ?_;simp (disch:=(first | omega | (simp;omega))) only [go_sem,w64,hne]) | refine as1 ?_ | fail)
  (first | refine callA (hCl) ?_ | refine callD (hCl) ?_ | refine callE (hCl) ?_ | refine callF (hCl) ?_ ?_)
  repeat' (first | refine sq ?_ | refine stp ?_ | refine blk_o (by decide) ?_ | (apply cb;(focus (simp (disch:=(first | omega | (simp;omega))) only [go_sem,w64];try exact rfl));refine cok ?_) | (refine rgT ?_;intro K hK) | (refine dA ?_;intro K hK) | (with_reducible refine hK _ ?_;clear hK K) | (refine stq ?_;simp (disch:=(first | omega | (simp;omega))) only [go_sem,w64]) | refine as1 ?_ | fail)
  (first | refine callA (hP1) ?_ | refine callD (hP1) ?_ | refine callE (hP1) ?_ | refine callF (hP1) ?_ ?_)
  repeat' (first | refine sq ?_ | refine stp ?_ | refine blk_o (by decide) ?_ | (apply cb;(focus (simp (disch:=(first | omega | (simp;omega))) only [go_sem,w64,relD];try exact rfl));refine cok ?_) | (refine rgT ?_;intro K hK) | (refine dA ?_;intro K hK) | (with_reducible refine hK _ ?_;clear hK K) | (refine stq ?_;simp (disch:=(first | omega | (simp;omega))) only [go_sem,w64,relD]) | refine as1 ?_ | fail)
  (first | refine callA (hCh) ?_ | refine callD (hCh) ?_ | refine callE (hCh) ?_ | refine callF (hCh) ?_ ?_)
  repeat' (first | refine sq ?_ | refine stp ?_ | refine blk_o (by decide) ?_ | (apply cb;(focus (simp (disch:=(first | omega | (simp;omega))) only [go_sem,w64];try exact rfl));refine cok ?_) | (with_reducible refine hK _ ?_;clear hK K) | (refine stq ?_;simp (disch:=(first | omega | (simp;omega))) only [go_sem,w64]) | refine as1 ?_ | fail)
  have hwm:((chTo f (hi - lo)).map DV.int).length=(chTo f (hi - lo)).length:=List.length_map ..
  refine awp_weak (s':=mkS [(3,.ptr 3 0),(4,.ptr 4 0),(8,.ptr 8 0),(9,.d (.bool true)),(10,.d (intsD (chTo f (hi - lo))))] [(3,[.d (.int ar),.d (rowsD rows),.d (intsD lw),.d (intsD gh),.d (intsD ps)]),(4,[.d (.int ar),.d (rowsD rows),.d (intsD lw2),.d (intsD gh2),.d (intsD (ps ++ [(lo:Int)]))]),(8,[.d (.int ar),.d (rowsD rows),.d (intsD lw),.d (intsD gh),.d (intsD ps)])]) (by exact sleA) ?_
  repeat' (first | refine sq ?_ | refine stp ?_ | refine blk_o (by decide) ?_ | (apply cb;(focus (simp (disch:=(first | omega | (simp;omega))) only [go_sem,w64];try exact rfl));refine cok ?_) | (refine rgT ?_;intro K hK) | (refine dA ?_;intro K hK) | (with_reducible refine hK _ ?_;clear hK K) | (refine stq ?_;simp (disch:=(first | omega | (simp;omega))) only [go_sem,w64]) | refine as1 ?_ | fail)
  refine awp_loopw (fun mm s=>∃ (k p:Nat),mm=hi - p∧GStart rows ps.length lo hi p∧k=(chTo f (p - lo)).length∧s=mkS [(3,.ptr 3 0),(4,.ptr 4 0),(8,.ptr 8 0),(9,.d (.bool true)),(10,.d (intsD (chTo f (hi - lo)))),(11,.buf 63 3 1 ((chTo f (p - lo)).map .int)),(12,.d (.int (k:Nat)))] [(3,[.d (.int ar),.d (rowsD rows),.d (intsD lw),.d (intsD gh),.d (intsD ps)]),(4,[.d (.int ar),.d (rowsD rows),.d (intsD lw2),.d (intsD gh2),.d (intsD (ps ++ [(p:Int)]))]),(8,[.d (.int ar),.d (rowsD rows),.d (intsD lw),.d (intsD gh),.d (intsD ps)])]) ?_ ?_
  ·refine ⟨_,_,?_,0,lo,rfl,hg0,by rw [Nat.sub_self];rfl,rfl⟩
   have e:chTo f (lo - lo)=[]:=by rw [Nat.sub_self];rfl
   (refine sle_mk ?_ ?_ <;> simp (disch:=(first | omega | (simp;omega))) only [go_sem,w64,e,List.map_nil] <;> exact leafs)
  ·rintro mm s ⟨k,p,rfl,hg,hk,rfl⟩
   have hvp:=hvo p hg
   obtain ⟨a1,a2,a3⟩:=hao p hg
   have hkl:k≤(chTo f (hi - lo)).length:=by rw [hk];exact hmono _ _ (by have:=hg.1.2;omega)
   have z1:decide ((k:Int)≤((chTo f (hi - lo)).length:Nat))=true:=decide_eq_true (by omega)
   have w4:IntKind.i64.wrap ((k:Int)+1)=((k+1:Nat):Int):=by rw [w64 (by omega)];rfl
   have hAt:=implAtEndA ar rows lw2 gh2 (ps ++ [(p:Int)])
   have hN:=implNextA ar rows lw2 gh2 (ps ++ [(p:Int)]) (hszp p)
   have hC:=implCurKeyA ar rows lw2 gh2 (ps ++ [(p:Int)])
   have hV:=implValidItA ar rows lw2 gh2 (ps ++ [(p:Int)])
   rw [a1] at hAt
   rw [a2] at hN hC
   rw [hvp] at hV
   repeat' (first | refine sq ?_ | refine stp ?_ | refine blk_o (by decide) ?_ | (apply cb;(focus (simp (disch:=(first | omega | (simp;omega))) only [go_sem,w64,intsD,hwm,z1];try exact rfl));refine cok ?_) | (refine rgT ?_;intro K hK) | (refine dA ?_;intro K hK) | (with_reducible refine hK _ ?_;clear hK K) | (refine stq ?_;simp (disch:=(first | omega | (simp;omega))) only [go_sem,w64,intsD,hwm,z1]) | refine as1 ?_ | fail)
   (first | refine callA (hAt) ?_ | refine callD (hAt) ?_ | refine callE (hAt) ?_ | refine callF (hAt) ?_ ?_)
   by_cases hph:p=hi
   ·subst hph
    have hs0:standsF ar rows lw2 gh2 (ps ++ [(p:Int)])=false:=by rw [a2,decide_eq_true rfl];rfl
    have hPx:=implPathA ar rows lw2 gh2 (ps ++ [(p:Int)]) (by have:=hA.n;simp;omega)
    rw [hpe] at hPx
    rw [nextP_no hs0] at hN
    have hsm:=same1 (chTo f (p - lo)) (by omega)
    have hsp:=same1 (pathF ar rows lw gh ps) (by have:=hA.n;omega)
    have zt:decide (p=p)=true:=decide_eq_true rfl
    rw [zt] at hN
    repeat' (first | refine sq ?_ | refine stp ?_ | refine blk_o (by decide) ?_ | (apply cb;(focus (simp (disch:=(first | omega | (simp;omega))) only [go_sem,w64,intsD,hwm,z1,zt];try exact rfl));refine cok ?_) | (refine rgT ?_;intro K hK) | (refine dA ?_;intro K hK) | (with_reducible refine hK _ ?_;clear hK K) | (refine stq ?_;simp (disch:=(first | omega | (simp;omega))) only [go_sem,w64,intsD,hwm,z1,zt]) | refine as1 ?_ | fail)
    (first | refine callA (hN) ?_ | refine callD (hN) ?_ | refine callE (hN) ?_ | refine callF (hN) ?_ ?_)
    repeat' (first | refine sq ?_ | refine stp ?_ | refine blk_o (by decide) ?_ | (apply cb;(focus (simp (disch:=(first | omega | (simp;omega))) only [go_sem,w64];try exact rfl));refine cok ?_) | (with_reducible refine hK _ ?_;clear hK K) | (refine stq ?_;simp (disch:=(first | omega | (simp;omega))) only [go_sem,w64]) | refine as1 ?_ | fail)
    refine awp_weak (s':=mkS [(3,.ptr 3 0),(4,.ptr 4 0),(8,.ptr 8 0),(9,.d (.bool true)),(10,.d (intsD (chTo f (p - lo)))),(11,.d (intsD (chTo f (p - lo)))),(16,.d (.bool false))] [(3,[.d (.int ar),.d (rowsD rows),.d (intsD lw),.d (intsD gh),.d (intsD ps)]),(4,[.d (.int ar),.d (rowsD rows),.d (intsD lw2),.d (intsD gh2),.d (intsD (ps ++ [(p:Int)]))]),(8,[.d (.int ar),.d (rowsD rows),.d (intsD lw),.d (intsD gh),.d (intsD ps)])]) (by (refine sle_mk ?_ ?_ <;> simp (disch:=(first | omega | (simp;omega))) only [go_sem,w64,intsD] <;> exact leafs)) ?_
    repeat' (first | refine sq ?_ | refine stp ?_ | refine blk_o (by decide) ?_ | (apply cb;(focus (simp (disch:=(first | omega | (simp;omega))) only [go_sem,w64];try exact rfl));refine cok ?_) | (refine rgT ?_;intro K hK) | (refine dA ?_;intro K hK) | (with_reducible refine hK _ ?_;clear hK K) | (refine stq ?_;simp (disch:=(first | omega | (simp;omega))) only [go_sem,w64]) | refine as1 ?_ | fail)
    (first | refine callA (hE0) ?_ | refine callD (hE0) ?_ | refine callE (hE0) ?_ | refine callF (hE0) ?_ ?_)
    repeat' (first | refine sq ?_ | refine stp ?_ | refine blk_o (by decide) ?_ | (apply cb;(focus (simp (disch:=(first | omega | (simp;omega))) only [go_sem,w64];try exact rfl));refine cok ?_) | (refine rgT ?_;intro K hK) | (refine dA ?_;intro K hK) | (with_reducible refine hK _ ?_;clear hK K) | (refine stq ?_;simp (disch:=(first | omega | (simp;omega))) only [go_sem,w64]) | refine as1 ?_ | fail)
    (first | refine callA (hE1) ?_ | refine callD (hE1) ?_ | refine callE (hE1) ?_ | refine callF (hE1) ?_ ?_)
    repeat' (first | refine sq ?_ | refine stp ?_ | refine blk_o (by decide) ?_ | (apply cb;(focus (simp (disch:=(first | omega | (simp;omega))) only [go_sem,w64];try exact rfl));refine cok ?_) | (refine rgT ?_;intro K hK) | (refine dA ?_;intro K hK) | (with_reducible refine hK _ ?_;clear hK K) | (refine stq ?_;simp (disch:=(first | omega | (simp;omega))) only [go_sem,w64]) | refine as1 ?_ | fail)
    (first | refine callA (hsm) ?_ | refine callD (hsm) ?_ | refine callE (hsm) ?_ | refine callF (hsm) ?_ ?_)
    repeat' (first | refine sq ?_ | refine stp ?_ | refine blk_o (by decide) ?_ | (apply cb;(focus (simp (disch:=(first | omega | (simp;omega))) only [go_sem,w64];try exact rfl));refine cok ?_) | (refine rgT ?_;intro K hK) | (refine dA ?_;intro K hK) | (with_reducible refine hK _ ?_;clear hK K) | (refine stq ?_;simp (disch:=(first | omega | (simp;omega))) only [go_sem,w64]) | refine as1 ?_ | fail)
    (first | refine callA (hPx) ?_ | refine callD (hPx) ?_ | refine callE (hPx) ?_ | refine callF (hPx) ?_ ?_)
    repeat' (first | refine sq ?_ | refine stp ?_ | refine blk_o (by decide) ?_ | (apply cb;(focus (simp (disch:=(first | omega | (simp;omega))) only [go_sem,w64];try exact rfl));refine cok ?_) | (refine rgT ?_;intro K hK) | (refine dA ?_;intro K hK) | (with_reducible refine hK _ ?_;clear hK K) | (refine stq ?_;simp (disch:=(first | omega | (simp;omega))) only [go_sem,w64]) | refine as1 ?_ | fail)
    (first | refine callA (hP1) ?_ | refine callD (hP1) ?_ | refine callE (hP1) ?_ | refine callF (hP1) ?_ ?_)
    repeat' (first | refine sq ?_ | refine stp ?_ | refine blk_o (by decide) ?_ | (apply cb;(focus (simp (disch:=(first | omega | (simp;omega))) only [go_sem,w64];try exact rfl));refine cok ?_) | (refine rgT ?_;intro K hK) | (refine dA ?_;intro K hK) | (with_reducible refine hK _ ?_;clear hK K) | (refine stq ?_;simp (disch:=(first | omega | (simp;omega))) only [go_sem,w64]) | refine as1 ?_ | fail)
    (first | refine callA (hsp) ?_ | refine callD (hsp) ?_ | refine callE (hsp) ?_ | refine callF (hsp) ?_ ?_)
    repeat' (first | refine sq ?_ | refine stp ?_ | refine blk_o (by decide) ?_ | (apply cb;(focus (simp (disch:=(first | omega | (simp;omega))) only [go_sem,w64];try exact rfl));refine cok ?_) | (refine rgT ?_;intro K hK) | (refine dA ?_;intro K hK) | (with_reducible refine hK _ ?_;clear hK K) | (refine stq ?_;simp (disch:=(first | omega | (simp;omega))) only [go_sem,w64]) | refine as1 ?_ | fail)
    (refine endA (r:=.d (.bool true)) ?_)
    exact ⟨rfl,rfl⟩
   ·have hlt:p<hi:=by have:=hg.1.2;omega
    obtain ⟨c1,c2⟩:=a3 hlt
    obtain ⟨n1,n2,n3⟩:=hno p hg hlt
    have zf:decide (p=hi)=false:=decide_eq_false hph
    rw [zf] at hN hC
    rw [c1] at hC
    rw [c2] at hN
    have hlm:((chTo f (p - lo)).map DV.int).length=k:=by rw [List.length_map];exact hk.symm
    have hn2:=n2.1.2
    generalize grpEnd rows ps.length p hi=g at *
    generalize kx rows p ps.length=key at *
    repeat' (first | refine sq ?_ | refine stp ?_ | refine blk_o (by decide) ?_ | (apply cb;(focus (simp (disch:=(first | omega | (simp;omega))) only [go_sem,w64,intsD,hwm,z1,zf];try exact rfl));refine cok ?_) | (refine rgT ?_;intro K hK) | (refine dA ?_;intro K hK) | (with_reducible refine hK _ ?_;clear hK K) | (refine stq ?_;simp (disch:=(first | omega | (simp;omega))) only [go_sem,w64,intsD,hwm,z1,zf]) | refine as1 ?_ | fail)
    (first | refine callA (hC) ?_ | refine callD (hC) ?_ | refine callE (hC) ?_ | refine callF (hC) ?_ ?_)
    repeat' (first | refine sq ?_ | refine stp ?_ | refine blk_o (by decide) ?_ | (apply cb;(focus (simp (disch:=(first | omega | (simp;omega))) only [go_sem,w64];try exact rfl));refine cok ?_) | (refine rgT ?_;intro K hK) | (refine dA ?_;intro K hK) | (with_reducible refine hK _ ?_;clear hK K) | (refine stq ?_;simp (disch:=(first | omega | (simp;omega))) only [go_sem,w64]) | refine as1 ?_ | fail)
    (first | refine callA (hV) ?_ | refine callD (hV) ?_ | refine callE (hV) ?_ | refine callF (hV) ?_ ?_)
    repeat' (first | refine sq ?_ | refine stp ?_ | refine blk_o (by decide) ?_ | (apply cb;(focus (simp (disch:=(first | omega | (simp;omega))) only [go_sem,w64,hlm];try exact rfl));refine cok ?_) | (refine rgT ?_;intro K hK) | (refine dA ?_;intro K hK) | (with_reducible refine hK _ ?_;clear hK K) | (refine stq ?_;simp (disch:=(first | omega | (simp;omega))) only [go_sem,w64,hlm]) | refine as1 ?_ | fail)
    (first | refine callA (hN) ?_ | refine callD (hN) ?_ | refine callE (hN) ?_ | refine callF (hN) ?_ ?_)
    repeat' (first | refine sq ?_ | refine stp ?_ | refine blk_o (by decide) ?_ | (apply cb;(focus (simp (disch:=(first | omega | (simp;omega))) only [go_sem,w64,w4];try exact rfl));refine cok ?_) | (refine rgT ?_;intro K hK) | (refine dA ?_;intro K hK) | (with_reducible refine hK _ ?_;clear hK K) | (refine stq ?_;simp (disch:=(first | omega | (simp;omega))) only [go_sem,w64,w4]) | refine as1 ?_ | fail)
    refine ⟨hi - g,_,by omega,?_,k+1,g,rfl,n2,by rw [n3,List.length_append,hk];rfl,rfl⟩
    have e3:(chTo f (g - lo)).map DV.int=(chTo f (p - lo)).map DV.int ++ [.int key]:=by rw [n3,List.map_append];rfl
    rw [e3]
    (refine sle_mk ?_ ?_ <;> simp (disch:=(first | omega | (simp;omega))) only [go_sem,w64,intsD] <;> exact leafs)
theorem law_FnIteration (a0:Option Addr) (n0:Nat) (c0:Nat) (xs0:List Int) (w:World) (hD0:BytesA false (0) w.heap.size w a0 n0 c0 xs0) :
 Calls Try.prog 4 #[.slice a0 n0 c0] w (Leaves w (.bool true)):=by
 have h:=lawIterA xs0 (by rw [hD0.len];exact hD0.small)
 refine law_of_afn (vs:=[.slice a0 n0 c0]) h (fun G hG=>⟨_,_,rfl,cvSl.2 (bytes_cx hD0 (fun b i _ hb=>by rw [hG];exact hb)),rfl⟩)
end Go.Proofs.Ytfobmfngbfbfdaa
