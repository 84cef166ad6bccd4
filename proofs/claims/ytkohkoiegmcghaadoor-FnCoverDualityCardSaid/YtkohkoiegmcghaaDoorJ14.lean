/- Lemmas for the proof of FnCoverDuality, part 14 of 26: no condition of their own. -/
import Derived.Test.YtkohkoiegmcghaaDoorJ10
import Derived.Test.YtkohkoiegmcghaaDoorJ13
namespace Go.Proofs.YtkohkoiegmcghaaDoor
set_option linter.unusedSimpArgs false
set_option linter.unusedVariables false
attribute [local go_sem ↓] reduceIte
attribute [local go_sem] Nat.reduceEqDiff Nat.reduceLT Nat.reduceAdd Nat.reduceLeDiff Nat.reduceMul Nat.reduceBEq Nat.reduceSub reduceCtorEq Int.reduceLE Int.reduceNeg Int.reduceLT
open Go.RowKit
section
variable {P:Cx→Prop} {N:Nat} {Q:Exit→AS→Prop} {s:AS} {ty:TypeId→Option TyI}
theorem awp_drawS (ht:TabOK ty) (hm:Tryd.prog.follows .mixedOrders=true) {id:Nat} {l:List Oper} (n:Nat) {d0:Nat} {x0:Operand} {o0:Oper} (ho0:l[0]? = some o0) (hop0:o0.op=.move x0) (hd0:o0.dst=some d0) (hg0:o0.guard=none) (hn1:0<n) (hnl:n<l.length)
 (hB:drawB l ((List.range l.length).map (flAt l))=true) (hS:splitB l n=true)
 (h:∀ K0:AS→Prop,(∀ s,Q .normal s→K0 s)→∀ K:AS→Prop,(∀ s1,aops ty N l (l.drop n) s1 K0→K s1)→wops ty N l ((l.take n).drop 1) 1 (s.put d0 (ev N s x0)) K):AWp P N (.region id l.toArray true) Q s:=by
 intro X a w hN hP ⟨G,hr⟩
 subst hN
 have hr3:Rel X (s.put d0 (ev X.N s x0)) (a.put (some d0) (a.eval x0)) w.drew:=⟨G,hr.drew.put d0 (hr.drew.ev x0)⟩
 refine wp_drawSplit ht hm n ho0 hop0 hd0 hg0 hn1 hnl hB hS hr3 (h (Q .normal) (fun _ h=>h) _ fun _ h=>h) ?_
 intro s1 a1 w1 g h2 _
 exact aops_ok (X:=X) ht (Q:=OutQ fun e a' w'=>∃ s',Q e s'∧Rel X s' a' w') (fun s' _ _ h1 h2=>⟨rfl,s',h1,h2⟩) _ s1 a1 w1 g h2
end
theorem acall_two {s:AS} {d q1 q2:Nat} {r1 r2:List RatD} {K:AS→Prop} {f:FuncId} {avs args:List AV} {R:AV→List (List AV)→Prop} (hA:AFn f args [cQ r1,cQ r2] R) (hsub:ASubs [q1,q2] avs args) (hlt:d<1000000) (hne:q1 ≠ q2) (h1:s.ob q1=some (cQ r1)) (h2:s.ob q2=some (cQ r2)) (hd1:q1 ≠ d) (hd2:q2 ≠ d)
 (h:∀ r os,R r os→os.length≤3∧K ((s.call [q1,q2] d os).put d (renA [q1,q2] d r))):ACall f avs s (some d) K:=by
 have hnd:([q1,q2]:List Nat).Nodup:=by simp [hne]
 refine ⟨d,[q1,q2],args,_,R,rfl,hlt,hA,hsub,⟨_,_,_,rfl,h1,asubs_cQ _ _,_,_,_,rfl,h2,asubs_cQ _ _,rfl⟩,fun i hi e=>?_,fun i j hi hj e=>nodup_inj hnd hi hj e,fun r os hr=>h r os hr⟩
 have hm:=getD_mem hi
 rw [e] at hm
 rcases List.mem_cons.1 hm with hm | hm
 ·exact hd1 hm.symm
 ·exact hd2 (List.mem_singleton.1 hm).symm
section
variable {s:AS} {d q1 q2:Nat} {l1 l2:List RatD}
theorem call2_1 (h:q1 ≠ d):(s.call [q1,q2] d [cQ l1,cQ l2]).ob q1=some (cQ l1):=by
 simp only [AS.call]
 rw [if_neg h]
 simp only [obSel,if_true,renAs_cQ]
theorem call2_2 (h:q2 ≠ d) (hn:q1 ≠ q2):(s.call [q1,q2] d [cQ l1,cQ l2]).ob q2=some (cQ l2):=by
 simp only [AS.call]
 rw [if_neg h]
 simp only [obSel,if_true,if_neg (fun e:q2=q1=>hn e.symm),renAs_cQ]
theorem call2_o {q:Nat} (h:q ≠ d) (h1:q ≠ q1) (h2:q ≠ q2):(s.call [q1,q2] d [cQ l1,cQ l2]).ob q=(s.ob q).map (scrubs (fun g=>!(g == d)) (fun o=>!(o == d))):=by
 simp only [AS.call]
 rw [if_neg h]
 simp only [obSel,if_neg h1,if_neg h2]
end
theorem swapL_comm {α:Type} {l:List α} {i j:Nat} {d:α}:swapL l i j d=swapL l j i d:=by
 unfold swapL
 by_cases e:i=j
 ·rw [e]
 ·exact List.set_comm _ _ (fun h=>e h.symm)
abbrev whQ (l:List RatD):DV:=.wh 2 (l.map ratDV)
def ansW:Option (List RatD)→AV
 | some l=>.tup [.d (whQ l),.d (.bool true)]
 | none=>.tup [.d (whQ []),.d (.bool false)]
theorem implCopyQ (l:List RatD) (hl:l.length≤1048576):AFn 63 [.d (ratsD l)] [] (fun r os=>r=.buf 0 33 2 (l.map ratDV)∧os=[]):=by
 refine afn_of (rv:=[.tmp 2]) tyT_ok Tryd.func63 rfl (by decide +kernel) Tryd.ntmps63 rfl (by simp) ?_
 have hl2:(l.map ratDV).length≤1048576:=by rw [List.length_map];exact hl
 repeat' (first | refine sq ?_ | refine stp ?_ | refine blk_o (by decide) ?_ | (apply cb;(focus (simp (disch:=(first | omega | (simp;omega))) only [go_sem,w64,ratsD];try exact rfl));refine cok ?_) | (refine rgT ?_;intro K hK) | (refine dA ?_;intro K hK) | (with_reducible refine hK _ ?_;clear hK K) | (refine stq ?_;simp (disch:=(first | omega | (simp;omega))) only [go_sem,w64,ratsD]) | refine as1 ?_ | fail)
 refine endG 3 (r:=.buf 0 33 2 (l.map ratDV)) ⟨rfl,rfl⟩
set_option maxHeartbeats 4000000 in
theorem implSolveA (rows:List (List RatD)) (right:List RatD) (n:Nat) (hS:SysOK rows right n):AFn 85 [.d (matD rows),.d (ratsD right)] [] (fun r os=>r=ansW (solF rows right)∧os=[]):=by
 obtain ⟨hn1,hn6,hrl,hbl,hrr,hrv,hbv⟩:=hS
 have hm:=SysOK.mat ⟨hn1,hn6,hrl,hbl,hrr,hrv,hbv⟩
 refine afn_ofN (args:=[matD rows,ratsD right]) (rv:=[.tmp 4,.tmp 5]) tyT_ok Tryd.func85 rfl (by decide +kernel) Tryd.ntmps85 rfl (by simp) ?_
 have z6:decide ((6:Int)<(n:Nat))=false:=decide_eq_false (by omega)
 have zn:decide ((n:Int)=(n:Nat))=true:=decide_eq_true rfl
 have hbl2:(right.map ratDV).length=n:=by rw [List.length_map];exact hbl
 have hrl2:(rows.map ratsD).length=n:=by rw [List.length_map];exact hrl
 repeat' (first | refine sq ?_ | refine stp ?_ | refine blk_o (by decide) ?_ | (apply cb;(focus (simp (disch:=(first | omega | (simp;omega))) only [go_sem,w64,matD,z6,hbl2,hrl2,zn];try exact rfl));refine cok ?_) | (refine rgT ?_;intro K hK) | (refine dA ?_;intro K hK) | (with_reducible refine hK _ ?_;clear hK K) | (refine stq ?_;simp (disch:=(first | omega | (simp;omega))) only [go_sem,w64,matD,z6,hbl2,hrl2,zn]) | refine as1 ?_ | fail)
 (first | refine callA (allValidA right (by omega)) ?_ | refine callD (allValidA right (by omega)) ?_ | refine callE (allValidA right (by omega)) ?_ | refine callF (allValidA right (by omega)) ?_ ?_)
 rw [hbv]
 repeat' (first | refine sq ?_ | refine stp ?_ | refine blk_o (by decide) ?_ | (apply cb;(focus (simp (disch:=(first | omega | (simp;omega))) only [go_sem,w64];try exact rfl));refine cok ?_) | (with_reducible refine hK _ ?_;clear hK K) | (refine stq ?_;simp (disch:=(first | omega | (simp;omega))) only [go_sem,w64]) | refine as1 ?_ | fail)
 (refine awp_region' tyT_ok ?_;intro K hK;simp (disch:=(first | omega | (simp;omega))) only [go_sem,w64,matD,hbl2,hrl2])
 refine hK _ ?_;clear hK K
 repeat' (first | refine sq ?_ | refine stp ?_ | refine blk_o (by decide) ?_ | (apply cb;(focus (simp (disch:=(first | omega | (simp;omega))) only [go_sem,w64];try exact rfl));refine cok ?_) | (with_reducible refine hK _ ?_;clear hK K) | (refine stq ?_;simp (disch:=(first | omega | (simp;omega))) only [go_sem,w64]) | refine as1 ?_ | fail)
 refine awp_nilbuf 7 7 28 1 (by simp (disch:=(first | omega | (simp;omega))) only [go_sem,w64]) ?_
 repeat' (first | refine sq ?_ | refine stp ?_ | refine blk_o (by decide) ?_ | (apply cb;(focus (simp (disch:=(first | omega | (simp;omega))) only [go_sem,w64,matD,hbl2,hrl2];try exact rfl));refine cok ?_) | (refine rgT ?_;intro K hK) | (refine dA ?_;intro K hK) | (with_reducible refine hK _ ?_;clear hK K) | (refine stq ?_;simp (disch:=(first | omega | (simp;omega))) only [go_sem,w64,matD,hbl2,hrl2]) | refine as1 ?_ | fail)
 refine awp_loopw (fun mm s=>∃ (i:Nat) (ns:List Nat) (hs:List DV),mm=n - i∧i≤n∧ns.length=i∧ns.Nodup∧HdOK (n+1) hs ns∧s=mkB [(1,.d (ratsD right)),(6,.d (.int (n:Nat))),(7,.buf 7 28 1 hs),(32,.d (matD rows)),(33,.d (.int (n:Nat))),(34,.d (.int (i:Nat)))] ns ((augF rows right).take i)) ?_ ?_
 ·refine ⟨_,_,?_,0,[],[],rfl,Nat.zero_le _,rfl,List.nodup_nil,.nil,rfl⟩
  refine sle_mkB0 (by simp (disch:=(first | omega | (simp;omega))) only [go_sem,w64] <;> exact leafs)
 ·rintro mm s ⟨i,ns,hs,rfl,hi,hnl,hnd,hH,rfl⟩
  repeat' (first | refine sq ?_ | refine stp ?_ | refine blk_o (by decide) ?_ | (apply cb;(focus (simp (disch:=(first | omega | (simp;omega))) only [go_sem,w64];try exact rfl));refine cok ?_) | (refine rgT ?_;intro K hK) | (refine dA ?_;intro K hK) | (with_reducible refine hK _ ?_;clear hK K) | (refine stq ?_;simp (disch:=(first | omega | (simp;omega))) only [go_sem,w64]) | refine as1 ?_ | fail)
  refine awp_if (p:=(i:Int)<(n:Nat)) (by simp (disch:=(first | omega | (simp;omega))) only [go_sem,w64]) ?_ ?_ <;> intro hc
  ·have hi2:i<n:=by omega
   have lr:=hrr i hi2
   have g2:(rows.map ratsD).getD i (.bool false)=ratsD (mx rows i):=getDm (by omega)
   have lr2:((mx rows i).map ratDV).length=n:=by rw [List.length_map];exact lr
   repeat' (first | refine sq ?_ | refine stp ?_ | refine blk_o (by decide) ?_ | (apply cb;(focus (simp (disch:=(first | omega | (simp;omega))) only [go_sem,w64,matD,ratsD,g2,hrl2,lr2,zn];try exact rfl));refine cok ?_) | (refine rgT ?_;intro K hK) | (refine dA ?_;intro K hK) | (with_reducible refine hK _ ?_;clear hK K) | (refine stq ?_;simp (disch:=(first | omega | (simp;omega))) only [go_sem,w64,matD,ratsD,g2,hrl2,lr2,zn]) | refine as1 ?_ | fail)
   (first | refine callA (allValidA (mx rows i) (by omega)) ?_ | refine callD (allValidA (mx rows i) (by omega)) ?_ | refine callE (allValidA (mx rows i) (by omega)) ?_ | refine callF (allValidA (mx rows i) (by omega)) ?_ ?_)
   rw [hrv i hi2]
   repeat' (first | refine sq ?_ | refine stp ?_ | refine blk_o (by decide) ?_ | (apply cb;(focus (simp (disch:=(first | omega | (simp;omega))) only [go_sem,w64];try exact rfl));refine cok ?_) | (refine rgT ?_;intro K hK) | (with_reducible refine hK _ ?_;clear hK K) | (refine stq ?_;simp (disch:=(first | omega | (simp;omega))) only [go_sem,w64]) | refine as1 ?_ | fail)
   refine awp_weak (sle_mkB (tl:=[(1,.d (ratsD right)),(6,.d (.int (n:Nat))),(7,.buf 7 28 1 hs),(8,.d (.int (i:Nat))),(9,.d (ratsD (mx rows i))),(32,.d (matD rows)),(33,.d (.int (n:Nat))),(34,.d (.int (i:Nat)))]) (ns:=ns) (R:=(augF rows right).take i) (by simp (disch:=(first | omega | (simp;omega))) only [go_sem,w64] <;> exact leafs) (fun b=>by simp (disch:=(first | omega | (simp;omega))) only [go_sem,w64]) hH.nbs) ?_
   have g1:(right.map ratDV).getD i (.bool false)=ratDV (qx right i):=getDq (by omega)
   refine awp_drawRow [49,50,51,52,53,54,55,56] tyT_ok (by kernel_rfl) 9 56 (d0:=48) rfl rfl rfl rfl (by decide) (by decide) (by kernel_rfl) (by kernel_rfl) (by decide) (by decide) (by kernel_rfl) (by decide) (s':=mkS [(1,.d (ratsD right)),(8,.d (.int (i:Nat))),(9,.d (ratsD (mx rows i)))] []) (sle_mk (by simp (disch:=(first | omega | (simp;omega))) only [go_sem,w64] <;> exact leafs) trivial) (by simp (disch:=(first | omega | (simp;omega))) only [go_sem,w64]) (fun _ h=>h) ?_
   intro K0 hK0 K hK
   simp only [List.take_succ_cons,List.take_zero,List.drop_succ_cons,List.drop_zero]
   repeat' (first | refine sq ?_ | refine stp ?_ | refine blk_o (by decide) ?_ | (apply cb;(focus (simp (disch:=(first | omega | (simp;omega))) only [go_sem,w64,g1,g2,hbl2,hrl2,lr2];try exact rfl));refine cok ?_) | (refine rgT ?_;intro K hK) | (refine dA ?_;intro K hK) | (with_reducible refine hK _ ?_;clear hK K) | (refine stq ?_;simp (disch:=(first | omega | (simp;omega))) only [go_sem,w64,g1,g2,hbl2,hrl2,lr2]) | refine as1 ?_ | fail)
   (first | refine callA (implCopyQ (mx rows i) (by omega)) ?_ | refine callD (implCopyQ (mx rows i) (by omega)) ?_ | refine callE (implCopyQ (mx rows i) (by omega)) ?_ | refine callF (implCopyQ (mx rows i) (by omega)) ?_ ?_)
   repeat' (first | refine sq ?_ | refine stp ?_ | refine blk_o (by decide) ?_ | (apply cb;(focus (simp (disch:=(first | omega | (simp;omega))) only [go_sem,w64,ratsD,g1,g2,hbl2,hrl2,lr2,ratDV];try exact rfl));refine cok ?_) | (refine rgT ?_;intro K hK) | (refine dA ?_;intro K hK) | (with_reducible refine hK _ ?_;clear hK K) | (refine stq ?_;simp (disch:=(first | omega | (simp;omega))) only [go_sem,w64,ratsD,g1,g2,hbl2,hrl2,lr2,ratDV]) | refine as1 ?_ | fail)
   have hrow:(mx rows i).map ratDV ++ [ratDV (qx right i)]=(mx rows i ++ [qx right i]).map ratDV:=by simp
   refine ⟨50,_,2,(mx rows i ++ [qx right i]).map ratDV,by simp (disch:=(first | omega | (simp;omega))) only [go_sem,w64];rw [← hrow];rfl,by simp,by decide,(rats_el _).1,(rats_el _).2,fun b c hb hc1 hc2=>?_⟩
   rw [flat_rats]
   clear hrow
   revert hK0
   revert K0
   intro K hK
   have hbn:obN ns ((augF rows right).take i) (nb b)=none:=by rw [← mkB_ob];exact hb
   have hlR:((augF rows right).take i).length=ns.length:=by rw [List.length_take,augF_len];omega
   have hnot:=obN_mem hlR hnd hbn
   have hhl:hs.length=i:=hH.len.trans hnl
   have lrow:(mx rows i ++ [qx right i]).length=n+1:=by rw [List.length_append,lr];rfl
   have hc3:n+1≤c:=by rw [List.length_map,lrow] at hc1;exact hc1
   repeat' (first | refine sq ?_ | refine stp ?_ | refine blk_o (by decide) ?_ | (apply cb;(focus (simp (disch:=(first | omega | (simp;omega))) only [go_sem,w64,hdV,lrow];try exact rfl));refine cok ?_) | (refine rgT ?_;intro K hK) | (refine dA ?_;intro K hK) | (with_reducible refine hK _ ?_;clear hK K) | (refine stq ?_;simp (disch:=(first | omega | (simp;omega))) only [go_sem,w64,hdV,lrow]) | refine as1 ?_ | fail)
   refine ⟨n - (i+1),_,by omega,?_,i+1,ns ++ [nb b],hs ++ [hdV b (n+1) c],rfl,by omega,by rw [List.length_append,hnl];rfl,?_,hH.snoc hc3 hc2,rfl⟩
   ·refine sle_mkB (by simp (disch:=(first | omega | (simp;omega))) only [go_sem,w64] <;> exact leafs) (fun b'=>?_) (hH.snoc hc3 hc2).nbs
    rw [augF_take (by omega),obN_snoc hlR hnot]
    simp (disch:=(first | omega | (simp;omega))) only [go_sem,w64]
    by_cases e:b'=b
    ·simp only [if_pos e,Option.map_some,cQ_scr]
    ·simp only [if_neg e,obN_scr]
   ·rw [List.nodup_append]
    exact ⟨hnd,by simp,fun x hx y hy e=>hnot (by rw [List.mem_singleton] at hy;rw [← hy,← e];exact hx)⟩
  ·obtain rfl:n=i:=by omega
   have hSh:Shp n (n+1) (augF rows right):=SysOK.aug ⟨hn1,hn6,hrl,hbl,hrr,hrv,hbv⟩
   have hsol:∀ j,j≤n→gsF n (augF rows right) j=none→solF rows right=none:=fun j hj h=>by
    unfold solF;rw [hbl,gsF_none h n hj]
   rw [List.take_of_length_le (by rw [augF_len];omega)]
   repeat' (first | refine sq ?_ | refine stp ?_ | refine blk_o (by decide) ?_ | (apply cb;(focus (simp (disch:=(first | omega | (simp;omega))) only [go_sem,w64];try exact rfl));refine cok ?_) | (with_reducible refine hK _ ?_;clear hK K) | (refine stq ?_;simp (disch:=(first | omega | (simp;omega))) only [go_sem,w64]) | refine as1 ?_ | fail)
   refine awp_weak (sle_mkB (tl:=[(6,.d (.int (n:Nat))),(7,.buf 7 28 1 hs)]) (ns:=ns) (R:=augF rows right) (by simp (disch:=(first | omega | (simp;omega))) only [go_sem,w64] <;> exact leafs) (fun b=>by simp (disch:=(first | omega | (simp;omega))) only [go_sem,w64]) hH.nbs) ?_
   obtain ⟨M0,hM1,hM2⟩:∃ M0:Mat n (n+1),M0.ns=ns∧M0.R=augF rows right:=⟨⟨ns,augF rows right,hnl,hSh,hnd,fun x hx=>by obtain ⟨b,rfl⟩:=hH.nbs x hx;rw [nb_eq];omega⟩,rfl,rfl⟩
   rw [← hM1,← hM2]
   rw [← hM1] at hH
   have h00:gsF n (augF rows right) 0=some M0.R:=by rw [hM2];rfl
   clear hM1 hM2 hnl hnd
   refine awp_matM (tl':=[(6,.d (.int (n:Nat))),(7,.arr 500000 1 n)]) 7 M0 (fun _ h=>h) (by decide) (by rfl) hH (by omega) ?_ (by simp (disch:=(first | omega | (simp;omega))) only [go_sem,w64] <;> exact leafs) ?_
   ·intro t' ht'
    simp only [lkT]
    split
    ·rfl
    ·first | trivial | (rw [if_neg ht'];trivial)
   clear hH hs ns
   repeat' (first | refine sq ?_ | refine stp ?_ | refine blk_o (by decide) ?_ | (apply cb;(focus (simp (disch:=(first | omega | (simp;omega))) only [go_sem,w64];try exact rfl));refine cok ?_) | (refine rgT ?_;intro K hK) | (refine dA ?_;intro K hK) | (with_reducible refine hK _ ?_;clear hK K) | (refine stq ?_;simp (disch:=(first | omega | (simp;omega))) only [go_sem,w64]) | refine as1 ?_ | fail)
   refine awp_loopw (fun mm s=>∃ (p:Nat) (M:Mat n (n+1)),mm=n - p∧p≤n∧gsF n (augF rows right) p=some M.R∧s=mkM [(6,.d (.int (n:Nat))),(7,.arr 500000 1 n),(10,.d (.int (p:Nat)))] [] M) ?_ ?_
   ·refine ⟨_,_,?_,0,M0,rfl,Nat.zero_le _,h00,rfl⟩
    refine sle_mkM (by simp (disch:=(first | omega | (simp;omega))) only [go_sem,w64] <;> exact leafs) trivial (by simp (disch:=(first | omega | (simp;omega))) only [go_sem,w64]) (fun i hi=>by simp (disch:=(first | omega | (simp;omega))) only [go_sem,w64])
   ·clear h00 M0
    rintro mm s ⟨p,M,rfl,hp,hG,rfl⟩
    repeat' (first | refine sq ?_ | refine stp ?_ | refine blk_o (by decide) ?_ | (apply cb;(focus (simp (disch:=(first | omega | (simp;omega))) only [go_sem,w64];try exact rfl));refine cok ?_) | (refine rgT ?_;intro K hK) | (refine dA ?_;intro K hK) | (with_reducible refine hK _ ?_;clear hK K) | (refine stq ?_;simp (disch:=(first | omega | (simp;omega))) only [go_sem,w64]) | refine as1 ?_ | fail)
    refine awp_if (p:=(p:Int)<(n:Nat)) (by simp (disch:=(first | omega | (simp;omega))) only [go_sem,w64]) ?_ ?_ <;> intro hc
    ·have hp2:p<n:=by omega
     have hG1:gsF n (augF rows right) (p+1)=match pvF M.R p n with | none=>none | some k=>stF (swapL M.R p k []) p:=by simp only [gsF,hG];rfl
     repeat' (first | refine sq ?_ | refine stp ?_ | refine blk_o (by decide) ?_ | (apply cb;(focus (simp (disch:=(first | omega | (simp;omega))) only [go_sem,w64];try exact rfl));refine cok ?_) | (refine rgT ?_;intro K hK) | (refine dA ?_;intro K hK) | (with_reducible refine hK _ ?_;clear hK K) | (refine stq ?_;simp (disch:=(first | omega | (simp;omega))) only [go_sem,w64]) | refine as1 ?_ | fail)
     refine awp_loopw (fun mm s=>∃ (k:Nat),mm=n - k∧p≤k∧k≤n∧(∀ j,p≤j→j<k→(qx (M.row j) p).num=0)∧s=mkM [(6,.d (.int (n:Nat))),(7,.arr 500000 1 n),(10,.d (.int (p:Nat))),(11,.d (.int (k:Nat)))] [] M) ?_ ?_
     ·refine ⟨_,_,?_,p,rfl,Nat.le_refl _,hp,fun j h1 h2=>by omega,rfl⟩
      refine sle_mkM (by simp (disch:=(first | omega | (simp;omega))) only [go_sem,w64] <;> exact leafs) trivial (by simp (disch:=(first | omega | (simp;omega))) only [go_sem,w64]) (fun i hi=>by simp (disch:=(first | omega | (simp;omega))) only [go_sem,w64])
     ·rintro mm s ⟨k,rfl,hk1,hk2,hz,rfl⟩
      by_cases hkn:k<n
      ·have zk:decide ((k:Int)<(n:Nat))=true:=decide_eq_true (by omega)
       have lk:=rowM_len (M:=M) hkn
       have e1:(cQ (M.row k)).getD (p*2+0) .junk=.d (.int (qx (M.row k) p).num):=cQ_num (M.row k) p (by omega) .junk
       have nk:=cQ_len (M.row k)
       by_cases hzk:(qx (M.row k) p).num=0
       ·have z2:decide ((qx (M.row k) p).num=0)=true:=decide_eq_true hzk
        repeat' (first | refine sq ?_ | refine stp ?_ | refine blk_o (by decide) ?_ | (apply cb;(focus (simp (disch:=(first | omega | (simp;omega))) only [go_sem,w64,zk,e1,nk,lk,z2];try exact rfl));refine cok ?_) | (refine rgT ?_;intro K hK) | (refine dA ?_;intro K hK) | (with_reducible refine hK _ ?_;clear hK K) | (refine stq ?_;simp (disch:=(first | omega | (simp;omega))) only [go_sem,w64,zk,e1,nk,lk,z2]) | refine as1 ?_ | fail)
        refine ⟨n - (k+1),_,by omega,?_,k+1,rfl,by omega,by omega,fun j h1 h2=>?_,rfl⟩
        ·refine sle_mkM (by simp (disch:=(first | omega | (simp;omega))) only [go_sem,w64] <;> exact leafs) trivial (by simp (disch:=(first | omega | (simp;omega))) only [go_sem,w64]) (fun i hi=>by simp (disch:=(first | omega | (simp;omega))) only [go_sem,w64])
        ·by_cases e:j=k
         ·rw [e];exact hzk
         ·exact hz j h1 (by omega)
       ·have z2:decide ((qx (M.row k) p).num=0)=false:=decide_eq_false hzk
        have z3:decide ((k:Int)=(n:Nat))=false:=decide_eq_false (by omega)
        have hpv:pvF M.R p n=some k:=pv_some hk1 hkn hz hzk
        rw [hpv] at hG1
        replace hG1:gsF n (augF rows right) (p+1)=stF (swapL M.R p k []) p:=hG1
        have hlh:=hdrM_len M
        have hgp:=hdrM_getD (M:=M) hp2
        have hgk:=hdrM_getD (M:=M) hkn
        repeat' (first | refine sq ?_ | refine stp ?_ | refine blk_o (by decide) ?_ | (apply cb;(focus (simp (disch:=(first | omega | (simp;omega))) only [go_sem,w64,zk,e1,nk,lk,z2,z3];try exact rfl));refine cok ?_) | (refine rgT ?_;intro K hK) | (with_reducible refine hK _ ?_;clear hK K) | (refine stq ?_;simp (disch:=(first | omega | (simp;omega))) only [go_sem,w64,zk,e1,nk,lk,z2,z3]) | refine as1 ?_ | fail)
        refine awp_draw tyT_ok (by kernel_rfl) (by kernel_rfl) ?_
        intro K hK
        repeat' (first | refine sq ?_ | refine stp ?_ | refine blk_o (by decide) ?_ | (apply cb;(focus (simp (disch:=(first | omega | (simp;omega))) only [go_sem,w64,hlh,hgp,hgk];try exact rfl));refine cok ?_) | (refine rgT ?_;intro K hK) | (with_reducible refine hK _ ?_;clear hK K) | (refine stq ?_;simp (disch:=(first | omega | (simp;omega))) only [go_sem,w64,hlh,hgp,hgk]) | refine as1 ?_ | fail)
        have hlh2:((M.hdr.set p (.arr (M.nm k) 2 (n+1))).length)=n:=by rw [List.length_set];exact hlh
        repeat' (first | refine sq ?_ | refine stp ?_ | refine blk_o (by decide) ?_ | (apply cb;(focus (simp (disch:=(first | omega | (simp;omega))) only [go_sem,w64,hlh,hgp,hgk,hlh2];try exact rfl));refine cok ?_) | (refine rgT ?_;intro K hK) | (with_reducible refine hK _ ?_;clear hK K) | (refine stq ?_;simp (disch:=(first | omega | (simp;omega))) only [go_sem,w64,hlh,hgp,hgk,hlh2]) | refine as1 ?_ | fail)
        refine awp_loopw (fun mm s=>∃ (i:Nat) (M':Mat n (n+1)),mm=n - i∧i≤n∧stTo (swapL M.R p k []) p i=some M'.R∧s=mkM [(6,.d (.int (n:Nat))),(7,.arr 500000 1 n),(10,.d (.int (p:Nat))),(12,.d (.int (i:Nat)))] [] M') ?_ ?_
        ·refine ⟨_,_,?_,0,M.swap k p hkn hp2,rfl,Nat.zero_le _,by rw [swapL_comm];rfl,rfl⟩
         refine sle_mkM (by simp (disch:=(first | omega | (simp;omega))) only [go_sem,w64] <;> exact leafs) trivial ?_ (fun i hi=>?_)
         ·rw [← swapM_hdr]
          simp (disch:=(first | omega | (simp;omega))) only [go_sem,w64]
         ·rw [swapM_nm,swapM_row]
          have hs9:(if i=k then p else if i=p then k else i)<n:=by split <;> (try split) <;> omega
          generalize (if i=k then p else if i=p then k else i)=q at hs9 ⊢
          simp (disch:=(first | omega | (simp;omega))) only [go_sem,w64]
        ·rintro mm s ⟨i,M',rfl,hi,hst,rfl⟩
         repeat' (first | refine sq ?_ | refine stp ?_ | refine blk_o (by decide) ?_ | (apply cb;(focus (simp (disch:=(first | omega | (simp;omega))) only [go_sem,w64];try exact rfl));refine cok ?_) | (refine rgT ?_;intro K hK) | (with_reducible refine hK _ ?_;clear hK K) | (refine stq ?_;simp (disch:=(first | omega | (simp;omega))) only [go_sem,w64]) | refine as1 ?_ | fail)
         refine awp_if (p:=(i:Int)<(n:Nat)) (by simp (disch:=(first | omega | (simp;omega))) only [go_sem,w64]) ?_ ?_ <;> intro hc2
         ·have hi2:i<n:=by omega
          have hs:stTo (swapL M.R p k []) p (i+1)=if i=p∨(qx (mx M'.R i) p).num=0 then some M'.R else match elF (mx M'.R i) (mx M'.R p) p with | some r=>some (M'.R.set i r) | none=>none:=by simp only [stTo,hst];rfl
          have li:=rowM_len (M:=M') hi2
          have ni:=cQ_len (M'.row i)
          have e2:(cQ (M'.row i)).getD (p*2+0) .junk=.d (.int (qx (M'.row i) p).num):=cQ_num (M'.row i) p (by omega) .junk
          repeat' (first | refine sq ?_ | refine stp ?_ | refine blk_o (by decide) ?_ | (apply cb;(focus (simp (disch:=(first | omega | (simp;omega))) only [go_sem,w64];try exact rfl));refine cok ?_) | (refine rgT ?_;intro K hK) | (with_reducible refine hK _ ?_;clear hK K) | (refine stq ?_;simp (disch:=(first | omega | (simp;omega))) only [go_sem,w64]) | refine as1 ?_ | fail)
          refine awp_drawS tyT_ok (by kernel_rfl) 24 rfl rfl rfl rfl (by decide) (by decide) (by kernel_rfl) (by kernel_rfl) ?_
          intro K0 hK0 K hK
          simp only [List.take_succ_cons,List.take_zero,List.drop_succ_cons,List.drop_zero]
          by_cases hip:i=p
          ·have z1:decide ((i:Int)=(p:Nat))=true:=decide_eq_true (by omega)
           rw [if_pos (.inl hip)] at hs
           repeat' (first | refine sq ?_ | refine stp ?_ | refine blk_o (by decide) ?_ | (apply cb;(focus (simp (disch:=(first | omega | (simp;omega))) only [go_sem,w64,z1];try exact rfl));refine cok ?_) | (refine rgT ?_;intro K hK) | (with_reducible refine hK _ ?_;clear hK K) | (refine stq ?_;simp (disch:=(first | omega | (simp;omega))) only [go_sem,w64,z1]) | refine as1 ?_ | fail)
           revert hK0
           revert K0
           intro K hK
           repeat' (first | refine sq ?_ | refine stp ?_ | refine blk_o (by decide) ?_ | (apply cb;(focus (simp (disch:=(first | omega | (simp;omega))) only [go_sem,w64,z1];try exact rfl));refine cok ?_) | (refine rgT ?_;intro K hK) | (with_reducible refine hK _ ?_;clear hK K) | (refine stq ?_;simp (disch:=(first | omega | (simp;omega))) only [go_sem,w64,z1]) | refine as1 ?_ | fail)
           refine ⟨n - (i+1),_,by omega,?_,i+1,M',rfl,by omega,hs,rfl⟩
           refine sle_mkM (by simp (disch:=(first | omega | (simp;omega))) only [go_sem,w64] <;> exact leafs) trivial (by simp (disch:=(first | omega | (simp;omega))) only [go_sem,w64]) (fun i hi=>by simp (disch:=(first | omega | (simp;omega))) only [go_sem,w64])
          ·have z1:decide ((i:Int)=(p:Nat))=false:=decide_eq_false (by omega)
           by_cases hz9:(qx (M'.row i) p).num=0
           ·have z9:decide ((qx (M'.row i) p).num=0)=true:=decide_eq_true hz9
            rw [if_pos (.inr hz9)] at hs
            repeat' (first | refine sq ?_ | refine stp ?_ | refine blk_o (by decide) ?_ | (apply cb;(focus (simp (disch:=(first | omega | (simp;omega))) only [go_sem,w64,z1,e2,z9,ni,li];try exact rfl));refine cok ?_) | (refine rgT ?_;intro K hK) | (with_reducible refine hK _ ?_;clear hK K) | (refine stq ?_;simp (disch:=(first | omega | (simp;omega))) only [go_sem,w64,z1,e2,z9,ni,li]) | refine as1 ?_ | fail)
            revert hK0
            revert K0
            intro K hK
            repeat' (first | refine sq ?_ | refine stp ?_ | refine blk_o (by decide) ?_ | (apply cb;(focus (simp (disch:=(first | omega | (simp;omega))) only [go_sem,w64,z1,z9];try exact rfl));refine cok ?_) | (refine rgT ?_;intro K hK) | (with_reducible refine hK _ ?_;clear hK K) | (refine stq ?_;simp (disch:=(first | omega | (simp;omega))) only [go_sem,w64,z1,z9]) | refine as1 ?_ | fail)
            refine ⟨n - (i+1),_,by omega,?_,i+1,M',rfl,by omega,hs,rfl⟩
            refine sle_mkM (by simp (disch:=(first | omega | (simp;omega))) only [go_sem,w64] <;> exact leafs) trivial (by simp (disch:=(first | omega | (simp;omega))) only [go_sem,w64]) (fun i hi=>by simp (disch:=(first | omega | (simp;omega))) only [go_sem,w64])
           ·have z9:decide ((qx (M'.row i) p).num=0)=false:=decide_eq_false hz9
            rw [if_neg (fun h=>h.elim hip hz9)] at hs
            repeat' (first | refine sq ?_ | refine stp ?_ | refine blk_o (by decide) ?_ | (apply cb;(focus (simp (disch:=(first | omega | (simp;omega))) only [go_sem,w64,z1,e2,z9,ni,li];try exact rfl));refine cok ?_) | (refine rgT ?_;intro K hK) | (with_reducible refine hK _ ?_;clear hK K) | (refine stq ?_;simp (disch:=(first | omega | (simp;omega))) only [go_sem,w64,z1,e2,z9,ni,li]) | refine as1 ?_ | fail)
            revert hK0
            revert K0
            intro K hK
            repeat' (first | refine sq ?_ | refine stp ?_ | refine blk_o (by decide) ?_ | (apply cb;(focus (simp (disch:=(first | omega | (simp;omega))) only [go_sem,w64,z1,z9];try exact rfl));refine cok ?_) | (refine rgT ?_;intro K hK) | (with_reducible refine hK _ ?_;clear hK K) | (refine stq ?_;simp (disch:=(first | omega | (simp;omega))) only [go_sem,w64,z1,z9]) | refine as1 ?_ | fail)
            have lp:=rowM_len (M:=M') hp2
            have hE:=eliminateA (M'.row i) (M'.row p) p (by omega) (by omega) (by omega)
            rw [li,lp] at hE
            have hnn:M'.nm i ≠ M'.nm p:=fun e=>hip ((nmM_inj hi2 hp2).mp e)
            have hn1':M'.nm i ≠ 128:=fun e=>(nmM_ne hi2 (by decide)).mp e
            have hn2':M'.nm p ≠ 128:=fun e=>(nmM_ne hp2 (by decide)).mp e
            refine acall_two hE (by (repeat (first | exact ASubs.nil | refine ASubs.cons (by first | exact ASub.d _ | exact ASub.dd (dle_wh _ _) | exact ASub.dd (dle_rowsV _) | exact ASub.dd (dle_rowsW _) | exact ASub.dd (dle_relW _ _) | exact ASub.bufd _ _ (dle_rowsV _) | exact ASub.nil _ | exact ASub.nn | exact ASub.buf _ _ _ _ | exact ASub.loc _ | exact ASub.ptr _ _ _ rfl | exact ASub.arr _ _ _ _ rfl | exact ASub.any _ | exact ASub.std rfl (dle_refl _)) ?_));done) (by decide) hnn (by simp (disch:=(first | omega | (simp;omega))) only [go_sem,w64]) (by simp (disch:=(first | omega | (simp;omega))) only [go_sem,w64]) hn1' hn2' (fun r os hr=>?_)
            obtain ⟨row',hl',rfl,rfl,hx⟩:=hr
            refine ⟨by simp,?_⟩
            have hc1:=fun s:AS=>call2_1 (s:=s) (q2:=M'.nm p) (l1:=row') (l2:=M'.row p) hn1'
            have hc2':=fun s:AS=>call2_2 (s:=s) (l1:=row') (l2:=M'.row p) hn2' hnn
            have hn3:(500000:Nat) ≠ M'.nm i:=fun e=>(ne_nmM hi2 (by decide)).mp e
            have hn4:(500000:Nat) ≠ M'.nm p:=fun e=>(ne_nmM hp2 (by decide)).mp e
            have hc3:=fun s:AS=>call2_o (s:=s) (l1:=row') (l2:=M'.row p) (d:=128) (show (500000:Nat) ≠ 128 by decide) hn3 hn4
            cases hel:elF (M'.row i) (M'.row p) p with
            | none =>
             have hs2:stTo (swapL M.R p k []) p (i+1)=none:=by rw [hs];show (match elF (M'.row i) (M'.row p) p with | some r=>some (M'.R.set i r) | none=>none)=none;rw [hel]
             have hF:stF (swapL M.R p k []) p=none:=by unfold stF;rw [swapL_len,M.hs.1];exact stTo_none hs2 n (by omega)
             rw [hF] at hG1
             repeat' (first | refine sq ?_ | refine stp ?_ | refine blk_o (by decide) ?_ | (apply cb;(focus (simp (disch:=(first | omega | (simp;omega))) only [go_sem,w64,callM_tm,Option.isSome_none,Bool.not_false];try exact rfl));refine cok ?_) | (refine rgT ?_;intro K hK) | (refine dA ?_;intro K hK) | (with_reducible refine hK _ ?_;clear hK K) | (refine stq ?_;simp (disch:=(first | omega | (simp;omega))) only [go_sem,w64,callM_tm,Option.isSome_none,Bool.not_false]) | refine as1 ?_ | fail)
             (refine endA (r:=.tup [.d (.wh 2 []),.d (.bool false)]) ?_)
             exact ⟨by rw [hsol (p+1) (by omega) hG1];rfl,rfl⟩
            | some r2 =>
             rw [hel] at hx
             obtain rfl:=hx r2 rfl
             have hs2:stTo (swapL M.R p k []) p (i+1)=some (M'.R.set i row'):=by rw [hs];show (match elF (M'.row i) (M'.row p) p with | some r=>some (M'.R.set i r) | none=>none)=_;rw [hel]
             have hR2:Shp n (n+1) (M'.R.set i row'):=M'.hs.set hi2 (by omega)
             repeat' (first | refine sq ?_ | refine stp ?_ | refine blk_o (by decide) ?_ | (apply cb;(focus (simp (disch:=(first | omega | (simp;omega))) only [go_sem,w64,callM_tm,Option.isSome_some,Bool.not_true];try exact rfl));refine cok ?_) | (refine rgT ?_;intro K hK) | (refine dA ?_;intro K hK) | (with_reducible refine hK _ ?_;clear hK K) | (refine stq ?_;simp (disch:=(first | omega | (simp;omega))) only [go_sem,w64,callM_tm,Option.isSome_some,Bool.not_true]) | refine as1 ?_ | fail)
             refine ⟨n - (i+1),_,by omega,?_,i+1,M'.withR _ hR2,rfl,by omega,hs2,rfl⟩
             refine sle_mkM (by simp (disch:=(first | omega | (simp;omega))) only [go_sem,w64] <;> exact leafs) trivial ?_ (fun i' hi'=>?_)
             ·simp only [put_ob]
              rw [hc3]
              refine Eq.trans (b:=some M'.hdr) (by simp (disch:=(first | omega | (simp;omega))) only [go_sem,w64]) rfl
             ·have hq:((M'.withR _ hR2).row i')=if i'=i then row' else M'.row i':=mx_set (by rw [M'.hs.1];exact hi2)
              have hqn:(M'.withR _ hR2).nm i'=M'.nm i':=rfl
              rw [hq,hqn]
              simp only [put_ob]
              by_cases e1:i'=i
              ·subst e1
               rw [if_pos rfl,hc1]
              ·rw [if_neg e1]
               by_cases e2:i'=p
               ·subst e2
                rw [hc2']
               ·have hm1:M'.nm i' ≠ M'.nm i:=fun e=>e1 ((nmM_inj hi' hi2).mp e)
                have hm2:M'.nm i' ≠ M'.nm p:=fun e=>e2 ((nmM_inj hi' hp2).mp e)
                rw [call2_o (fun e=>(nmM_ne hi' (by decide)).mp e) hm1 hm2]
                simp (disch:=(first | omega | (simp;omega))) only [go_sem,w64]
         ·obtain rfl:n=i:=by omega
          have hF:stF (swapL M.R p k []) p=some M'.R:=by unfold stF;rw [swapL_len,M.hs.1];exact hst
          rw [hF] at hG1
          repeat' (first | refine sq ?_ | refine stp ?_ | refine blk_o (by decide) ?_ | (apply cb;(focus (simp (disch:=(first | omega | (simp;omega))) only [go_sem,w64];try exact rfl));refine cok ?_) | (refine rgT ?_;intro K hK) | (with_reducible refine hK _ ?_;clear hK K) | (refine stq ?_;simp (disch:=(first | omega | (simp;omega))) only [go_sem,w64]) | refine as1 ?_ | fail)
          refine ⟨n - (p+1),_,by omega,?_,p+1,M',rfl,by omega,hG1,rfl⟩
          refine sle_mkM (by simp (disch:=(first | omega | (simp;omega))) only [go_sem,w64] <;> exact leafs) trivial (by simp (disch:=(first | omega | (simp;omega))) only [go_sem,w64]) (fun i hi=>by simp (disch:=(first | omega | (simp;omega))) only [go_sem,w64])
      ·obtain rfl:k=n:=by omega
       have zk:decide ((k:Int)<(k:Nat))=false:=decide_eq_false (by omega)
       have z3:decide ((k:Int)=(k:Nat))=true:=decide_eq_true rfl
       have hpv:pvF M.R p k=none:=pv_none hz
       rw [hpv] at hG1
       repeat' (first | refine sq ?_ | refine stp ?_ | refine blk_o (by decide) ?_ | (apply cb;(focus (simp (disch:=(first | omega | (simp;omega))) only [go_sem,w64,zk,z3];try exact rfl));refine cok ?_) | (refine rgT ?_;intro K hK) | (refine dA ?_;intro K hK) | (with_reducible refine hK _ ?_;clear hK K) | (refine stq ?_;simp (disch:=(first | omega | (simp;omega))) only [go_sem,w64,zk,z3]) | refine as1 ?_ | fail)
       (refine endA (r:=.tup [.d (.wh 2 []),.d (.bool false)]) ?_)
       exact ⟨by rw [hsol (p+1) (by omega) hG1];rfl,rfl⟩
    ·obtain rfl:n=p:=by omega
     have hso:solF rows right=outTo M.R n n:=by unfold solF;rw [hbl,hG]
     repeat' (first | refine sq ?_ | refine stp ?_ | refine blk_o (by decide) ?_ | (apply cb;(focus (simp (disch:=(first | omega | (simp;omega))) only [go_sem,w64];try exact rfl));refine cok ?_) | (with_reducible refine hK _ ?_;clear hK K) | (refine stq ?_;simp (disch:=(first | omega | (simp;omega))) only [go_sem,w64]) | refine as1 ?_ | fail)
     refine awp_weak (sle_mkM (tl:=[(6,.d (.int (n:Nat))),(7,.arr 500000 1 n)]) (ol:=[]) (M:=M) (by simp (disch:=(first | omega | (simp;omega))) only [go_sem,w64] <;> exact leafs) trivial (by simp (disch:=(first | omega | (simp;omega))) only [go_sem,w64]) (fun i hi=>by simp (disch:=(first | omega | (simp;omega))) only [go_sem,w64])) ?_
     (refine awp_region' tyT_ok ?_;intro K hK;simp (disch:=(first | omega | (simp;omega))) only [go_sem,w64])
     refine hK _ ?_;clear hK K
     repeat' (first | refine sq ?_ | refine stp ?_ | refine blk_o (by decide) ?_ | (apply cb;(focus (simp (disch:=(first | omega | (simp;omega))) only [go_sem,w64];try exact rfl));refine cok ?_) | (with_reducible refine hK _ ?_;clear hK K) | (refine stq ?_;simp (disch:=(first | omega | (simp;omega))) only [go_sem,w64]) | refine as1 ?_ | fail)
     refine awp_nilbuf 13 13 33 2 (by simp (disch:=(first | omega | (simp;omega))) only [go_sem,w64]) ?_
     repeat' (first | refine sq ?_ | refine stp ?_ | refine blk_o (by decide) ?_ | (apply cb;(focus (simp (disch:=(first | omega | (simp;omega))) only [go_sem,w64];try exact rfl));refine cok ?_) | (refine rgT ?_;intro K hK) | (refine dA ?_;intro K hK) | (with_reducible refine hK _ ?_;clear hK K) | (refine stq ?_;simp (disch:=(first | omega | (simp;omega))) only [go_sem,w64]) | refine as1 ?_ | fail)
     refine awp_loopw (fun mm s=>∃ (p:Nat) (l:List RatD),mm=n - p∧p≤n∧outTo M.R n p=some l∧s=mkM [(6,.d (.int (n:Nat))),(7,.arr 500000 1 n),(13,.buf 13 33 2 (l.map ratDV)),(14,.d (.int (p:Nat)))] [] M) ?_ ?_
     ·refine ⟨_,_,?_,0,[],rfl,Nat.zero_le _,rfl,rfl⟩
      refine sle_mkM (by simp (disch:=(first | omega | (simp;omega))) only [go_sem,w64] <;> exact leafs) trivial (by simp (disch:=(first | omega | (simp;omega))) only [go_sem,w64]) (fun i hi=>by simp (disch:=(first | omega | (simp;omega))) only [go_sem,w64])
     ·rintro mm s ⟨p,l,rfl,hp3,ho,rfl⟩
      repeat' (first | refine sq ?_ | refine stp ?_ | refine blk_o (by decide) ?_ | (apply cb;(focus (simp (disch:=(first | omega | (simp;omega))) only [go_sem,w64];try exact rfl));refine cok ?_) | (refine rgT ?_;intro K hK) | (refine dA ?_;intro K hK) | (with_reducible refine hK _ ?_;clear hK K) | (refine stq ?_;simp (disch:=(first | omega | (simp;omega))) only [go_sem,w64]) | refine as1 ?_ | fail)
      refine awp_if (p:=(p:Int)<(n:Nat)) (by simp (disch:=(first | omega | (simp;omega))) only [go_sem,w64]) ?_ ?_ <;> intro hc
      ·have hp4:p<n:=by omega
       have lp:=rowM_len (M:=M) hp4
       have np:=cQ_len (M.row p)
       have d1:=cQ_ld (M.row p) n (by omega)
       have d2:=cQ_ld (M.row p) p (by omega)
       have hs:outTo M.R n (p+1)=if (divQ (qx (M.row p) n) (qx (M.row p) p)).2.2=true then some (l ++ [rq (divQ (qx (M.row p) n) (qx (M.row p) p))]) else none:=by simp only [outTo,ho];rfl
       have hll:l.length=p:=outTo_len ho
       repeat' (first | refine sq ?_ | refine stp ?_ | refine blk_o (by decide) ?_ | (apply cb;(focus (simp (disch:=(first | omega | (simp;omega))) only [go_sem,w64,lp,np,d1,d2];try exact rfl));refine cok ?_) | (refine rgT ?_;intro K hK) | (refine dA ?_;intro K hK) | (with_reducible refine hK _ ?_;clear hK K) | (refine stq ?_;simp (disch:=(first | omega | (simp;omega))) only [go_sem,w64,lp,np,d1,d2]) | refine as1 ?_ | fail)
       (first | refine callA (implDivA (qx (M.row p) n) (qx (M.row p) p)) ?_ | refine callD (implDivA (qx (M.row p) n) (qx (M.row p) p)) ?_ | refine callE (implDivA (qx (M.row p) n) (qx (M.row p) p)) ?_ | refine callF (implDivA (qx (M.row p) n) (qx (M.row p) p)) ?_ ?_)
       generalize divQ (qx (M.row p) n) (qx (M.row p) p)=t at hs ⊢
       cases ht:t.2.2 with
       | false =>
        rw [if_neg (by rw [ht];simp)] at hs
        repeat' (first | refine sq ?_ | refine stp ?_ | refine blk_o (by decide) ?_ | (apply cb;(focus (simp (disch:=(first | omega | (simp;omega))) only [go_sem,w64,tupQ,ratDV,ht];try exact rfl));refine cok ?_) | (refine rgT ?_;intro K hK) | (refine dA ?_;intro K hK) | (with_reducible refine hK _ ?_;clear hK K) | (refine stq ?_;simp (disch:=(first | omega | (simp;omega))) only [go_sem,w64,tupQ,ratDV,ht]) | refine as1 ?_ | fail)
        (refine endA (r:=.tup [.d (.wh 2 []),.d (.bool false)]) ?_)
        exact ⟨by rw [hso,outTo_none hs n (by omega)];rfl,rfl⟩
       | true =>
        rw [if_pos ht] at hs
        repeat' (first | refine sq ?_ | refine stp ?_ | refine blk_o (by decide) ?_ | (apply cb;(focus (simp (disch:=(first | omega | (simp;omega))) only [go_sem,w64,tupQ,ratDV,ht];try exact rfl));refine cok ?_) | (refine rgT ?_;intro K hK) | (refine dA ?_;intro K hK) | (with_reducible refine hK _ ?_;clear hK K) | (refine stq ?_;simp (disch:=(first | omega | (simp;omega))) only [go_sem,w64,tupQ,ratDV,ht]) | refine as1 ?_ | fail)
        refine ⟨n - (p+1),_,by omega,?_,p+1,l ++ [rq t],rfl,by omega,hs,rfl⟩
        refine sle_mkM (by simp (disch:=(first | omega | (simp;omega))) only [go_sem,w64,List.map_append,List.map_cons,List.map_nil,ratDV] <;> exact leafs) trivial (by simp (disch:=(first | omega | (simp;omega))) only [go_sem,w64]) (fun i hi=>by simp (disch:=(first | omega | (simp;omega))) only [go_sem,w64])
      ·obtain rfl:n=p:=by omega
       repeat' (first | refine sq ?_ | refine stp ?_ | refine blk_o (by decide) ?_ | (apply cb;(focus (simp (disch:=(first | omega | (simp;omega))) only [go_sem,w64];try exact rfl));refine cok ?_) | (refine rgT ?_;intro K hK) | (refine dA ?_;intro K hK) | (with_reducible refine hK _ ?_;clear hK K) | (refine stq ?_;simp (disch:=(first | omega | (simp;omega))) only [go_sem,w64]) | refine as1 ?_ | fail)
       refine endG 13 (r:=.tup [.d (.wh 2 (l.map ratDV)),.d (.bool true)]) ?_
       exact ⟨by rw [hso,ho];rfl,rfl⟩
end Go.Proofs.YtkohkoiegmcghaaDoor
namespace Go.Proofs.YtkohkoiegmcghaaDoor
set_option linter.unusedSimpArgs false
set_option linter.unusedVariables false
open Go.RowKit
section
variable {ty:TypeId→Option TyI}
theorem wp_drawLast (ht:TabOK ty) (hm:Tryd.prog.follows .mixedOrders=true) {id:Nat} {l:List Oper} (n:Nat) {o:Oper} (hn:l.length=n+1) (ho:l[n]? = some o) (hg:o.guard=none)
 (hB:drawB l ((List.range l.length).map (flAt l))=true) (hR:(List.range n).all (fun j=>reachF l.toArray l.length n j)=true) {X:Cx} {s:AS} {a:Act} {w:World} {Q:Exit→Act→World→Prop} {K:AS→Prop} (hr:Rel X s a w.drew) (hw:wops ty X.N l (l.take n) 0 s K)
 (hs:∀ s1 a1 w1,K s1→Rel X s1 a1 w1→(∀ t,(∀ o∈l.take n,o.dst ≠ some t)→a1.tmps.getD t undef=a.tmps.getD t undef)→o.wp Tryd.prog a1 w1 (Q .normal) Q):(Code.region id l.toArray true).wp Tryd.prog Q a w:=by
 have hlt:(l.take n).length=n:=by simp [hn]
 have hwo:=wops_ok (ty:=ty) (N:=X.N) (ops:=l) (fls:=(List.range l.length).map (flAt l)) (fun i hi=>by simp [List.getD,hi]) (l.take n) 0 s (K:=K) (fun j hj=>by rw [hlt] at hj;simp [List.getElem?_take,hj]) hw
 rw [hlt] at hwo
 generalize hfl:(List.range l.length).map (flAt l)=fls at hB hwo
 have hchk:∀ i o,l[i]? = some o→(∀ e∈o.after,Region.binds .any e=true→e.on<i)∧∀ j,j<i→reachF l.toArray l.length i j=true∨∀ p,l[j]? = some p→Ind l (fls.getD j []) (fls.getD i []) p o:=by
  intro i o ho
  have hi:=(List.getElem?_eq_some_iff.1 ho).1
  have:=List.all_eq_true.1 hB i (List.mem_range.2 hi)
  rw [ho] at this
  simp only [Bool.and_eq_true] at this
  refine ⟨fun e he hb=>?_,fun j hj=>?_⟩
  ·have h1:=List.all_eq_true.1 this.1 e (by simpa using he)
   rw [hb] at h1
   simpa using h1
  ·have h1:=List.all_eq_true.1 this.2 j (List.mem_range.2 hj)
   simp only [Bool.or_eq_true] at h1
   rcases h1 with h1 | h1
   ·exact .inl h1
   ·refine .inr fun p hp=>?_
    rw [hp] at h1
    exact ind_of h1
 refine wp_region_inv hm (fun d a' w'=>(d n=false∧(∃ s',Rel X s' a' w'∧aopsD ty X.N l fls ((List.range n).filter fun i=>!d i) s' K)∧∀ t,(∀ o∈l.take n,o.dst ≠ some t)→a'.tmps.getD t undef=a.tmps.getD t undef)∨(d n=true∧(∀ j,j<n→d j=true)∧Q .normal a' w')) (fun i o ho=>(hchk i o (by simpa using ho)).1) ?_ ?_ ?_
 ·refine .inl ⟨rfl,⟨s,hr,?_⟩,fun t _=>rfl⟩
  have:(List.range n).filter (fun i=>!(fun _=>false:Nat→Bool) i)=List.range n:=by simp
  rw [this,List.range_eq_range']
  exact hwo
 ·rintro d a' w' i o' ho2 hd hdeps hcl hbig hI
  have ho':l[i]? = some o':=by simpa using ho2
  have hi:=(List.getElem?_eq_some_iff.1 ho').1
  have hreach:∀ j,reachF l.toArray l.length i j=true→d j=true:=fun j hj=>reachF_done (ops:=l.toArray) hcl l.length i j (fun o' h2=>by rw [ho2] at h2;cases h2;exact hdeps) hj
  rcases hI with ⟨hdn,⟨s',⟨G',hr'⟩,ha⟩,hk⟩ | ⟨hdn,hall,_⟩
  ·by_cases hin:i=n
   ·subst hin
    obtain rfl:o=o':=by rw [ho] at ho';exact Option.some.inj ho'
    have hall:∀ j,j<i→d j=true:=fun j hj=>hreach j (List.all_eq_true.1 hR j (List.mem_range.2 hj))
    have e0:(List.range i).filter (fun i=>!d i)=[]:=by
     rw [List.filter_eq_nil_iff]
     intro x hx
     simp [hall x (List.mem_range.1 hx)]
    rw [e0] at ha
    unfold wpOp
    rw [ho2]
    simp only
    rw [if_pos (by simp [Region.wanted,hg])]
    refine .inl (Oper.wp_mono (fun a2 w2 h3=>?_) (hs s' a' w' ha ⟨G',hr'⟩ hk))
    exact .inr ⟨by simp,fun j hj=>by simp [show ¬ j=i by omega,hall j hj],h3⟩
   ·have hin':i<n:=by omega
    obtain ⟨post,e1,e2⟩:=filter_split (fun j=>!d j) n i hin' (by simp [hd])
    rw [e1] at ha
    have hfr:=front (ty:=ty) (N:=X.N) ht ho' _ s' (fun j hj p hp=>by
     obtain ⟨hj1,hj2⟩:=List.mem_filter.1 hj
     have hji:j<i:=List.mem_range.1 hj1
     rcases (hchk i o' ho').2 j hji with h1 | h1
     ·exfalso
      rw [hreach j h1] at hj2;cases hj2
     ·exact h1 p hp) ha
    have hst:=stepD_ok (Q:=Q) (nx:=fun a2 w2=>∃ s2,Rel X s2 a2 w2∧aopsD ty X.N l fls ((List.range i).filter (fun j=>!d j) ++ post) s2 K) ht rfl hr' ho' hfr (fun s2 a2 w2 h5 h6=>⟨s2,h6,h5⟩)
    refine wpOp_mono ?_ (wpOp_keep ho2 hst)
    rintro a2 w2 ⟨⟨s2,h6,h5⟩,h7⟩
    refine .inl ⟨?_,⟨s2,h6,?_⟩,fun t htt=>?_⟩
    ·show (if n=i then true else d n)=false
     rw [if_neg (fun e=>hin e.symm)];exact hdn
    ·have e3:(List.range n).filter (fun j=>!(if j=i then true else d j))=(List.range n).filter (fun j=>(fun j=>!d j) j && !(j == i)):=by
      apply List.filter_congr
      intro x _
      by_cases ex:x=i
      ·simp [ex]
      ·simp [ex]
     rw [e3,e2];exact h5
    ·rw [h7 t (htt o' ?_),hk t htt]
     refine List.mem_iff_getElem?.2 ⟨i,?_⟩
     rw [List.getElem?_take_of_lt hin']
     exact ho'
  ·exfalso
   by_cases hin:i=n
   ·rw [hin,hdn] at hd;cases hd
   ·rw [hall i (by omega)] at hd;cases hd
 ·rintro d a' w' hall hbig hI
  rcases hI with ⟨hdn,_⟩ | ⟨_,_,h⟩
  ·have:=hall n (by simp [hn])
   rw [hdn] at this;cases this
  ·exact h
end
def CW (X:Cx) (QF:Exit→Act→World→Prop) (c:Code) (s:AS):Prop:=∀ a w,Rel X s a w→c.wp Tryd.prog QF a w
def CWq (X:Cx) (QF:Exit→Act→World→Prop):Exit→AS→Prop
 | .ret,s=>∀ a w,Rel X s a w→QF .ret a w
 | _,_=>False
theorem cw_seq {X:Cx} {QF:Exit→Act→World→Prop} {x y:Code} {s:AS} {N:Nat} (hN:X.N=N) (h:AWp (fun X'=>X'=X) N x (thenA (CW X QF y) (CWq X QF)) s):CW X QF (.seq x y) s:=by
 intro a w hr
 refine wp_seq (wp_mono (h X a w hN rfl hr) ?_)
 rintro e a' w' ⟨s',h1,h2⟩
 cases e with
 | normal=>exact h1 a' w' h2
 | ret=>exact h1 a' w' h2
 | _=>exact h1.elim
theorem cw_weak {X:Cx} {QF:Exit→Act→World→Prop} {c:Code} {s s':AS} (h:SLe s s') (hh:CW X QF c s'):CW X QF c s:=fun a w hr=>hh a w (hr.weak h)
theorem cw_region {X:Cx} {QF:Exit→Act→World→Prop} {s:AS} {ty:TypeId→Option TyI} (ht:TabOK ty) {N:Nat} (hN:X.N=N) (n:Nat) {id:Nat} {l:List Oper} (h:∀ K:AS→Prop,(∀ s1,(∀ a w,Rel X s1 a w→wpList Tryd.prog l.toArray QF (l.drop n) a w)→K s1)→aops ty N l (l.take n) s K):CW X QF (.region id l.toArray false) s:=by
 intro a w hr
 subst hN
 refine wp_region_lit ?_
 have key:=aops_okP (X:=X) ht (ops:=l) (Q:=QF) (tl:=l.drop n) (K:=fun s1=>∀ a w,Rel X s1 a w→wpList Tryd.prog l.toArray QF (l.drop n) a w) (fun s1 a1 w1 h1 h2=>h1 a1 w1 h2) (l.take n) s a w (h _ fun _ h=>h) hr
 rw [List.take_append_drop] at key
 exact key
theorem cwq_ret {X:Cx} {QF:Exit→Act→World→Prop} {s:AS} (h:∀ a w,Rel X s a w→QF .ret a w):CWq X QF .ret s:=h
structure OutW (C:Nat→Nat→Prop) (w:World) (bo:Nat) (hdr:Value) (outs:List (List RatD)):Prop where
 lt:bo<w.heap.size
 noC:∀ i,¬ C bo i
 cell:w.cell? ⟨bo,0,none⟩=some hdr
 frz:w.frozen? ⟨bo,0,none⟩=false
 buf:∃ a m c vs,hdr=.slice a m c∧OwnF 28 1 0 w a m c vs∧CXk C w 1 (outs.map whQ) vs∧∀ b,a=some ⟨b,0,none⟩→b ≠ bo∧∀ i,¬ C b i
structure ChR (C C':Nat→Nat→Prop) (w w':World) (bo:Nat) (hdr hdr':Value):Prop where
 os:w'.os=w.os
 tape:w'.tape=w.tape
 output:w'.output=w.output
 size:w.heap.size≤w'.heap.size
 block:∀ k,k<w.heap.size→k ≠ bo→hdr.ownBlock ≠ some k→w'.heap[k]? = w.heap[k]?
 own:∀ b,hdr'.ownBlock=some b→hdr.ownBlock=some b∨w.heap.size≤b
 cc:∀ b i,C b i→C' b i
 cs:∀ b i,C' b i→b<w'.heap.size
 lc:∀ b i,C' b i→b<w.heap.size→C b i
 uf:∀ b i,C' b i→w.heap.size≤b→w'.frozen? ⟨b,i,none⟩=false
theorem ChR.refl {C:Nat→Nat→Prop} {w:World} (bo:Nat) (hdr:Value) (hc:∀ b i,C b i→b<w.heap.size):ChR C C w w bo hdr hdr :=
 ⟨rfl,rfl,rfl,Nat.le_refl _,fun _ _ _ _=>rfl,fun _ h=>.inl h,fun _ _ h=>h,hc,fun _ _ h _=>h,fun b i h hz=>by have:=hc b i h;omega⟩
theorem ChR.trans {C C' C'':Nat→Nat→Prop} {w w' w'':World} {bo:Nat} {h h' h'':Value} (a:ChR C C' w w' bo h h') (b:ChR C' C'' w' w'' bo h' h'') (hb:bo<w.heap.size) (hnC:∀ i,¬ C' bo i) (hnh:∀ q,h'.ownBlock=some q→∀ i,¬ C' q i):ChR C C'' w w'' bo h h'':=by
 refine ⟨b.os.trans a.os,b.tape.trans a.tape,b.output.trans a.output,Nat.le_trans a.size b.size,fun k hk h1 h2=>?_,fun q hq=>?_,fun q i hc=>b.cc q i (a.cc q i hc),b.cs,fun q i hc hq=>a.lc q i (b.lc q i hc (Nat.lt_of_lt_of_le hq a.size)) hq,fun q i hc hz=>?_⟩
 ·rw [b.block k (Nat.lt_of_lt_of_le hk a.size) h1 (fun e=>?_),a.block k hk h1 h2]
  rcases a.own k e with h3 | h3
  ·exact h2 h3
  ·omega
 ·rcases b.own q hq with h3 | h3
  ·exact a.own q h3
  ·exact .inr (Nat.le_trans a.size h3)
 ·by_cases e:q<w'.heap.size
  ·have h5:=b.lc q i hc e
   have h6:=a.uf q i h5 hz
   rw [World.frozen?_of_block (w:=w') (b.block q e (fun e2=>hnC i (e2 ▸ h5)) (fun e2=>hnh q e2 i h5))]
   exact h6
  ·exact b.uf q i hc (by omega)
theorem ChR.stay {C C':Nat→Nat→Prop} {w w':World} {bo:Nat} {h h':Value} (a:ChR C C' w w' bo h h') (hc:∀ b i,C b i→b<w.heap.size) (hnC:∀ i,¬ C bo i) (hnh:∀ q,h.ownBlock=some q→∀ i,¬ C q i):Stay C C' w w':=fun b i hcb =>
 ⟨a.cc b i hcb,World.cell?_of_block (w:=w) (a.block b (hc b i hcb) (fun e=>hnC i (e ▸ hcb)) (fun e=>hnh b e i hcb))⟩
theorem OutW.own {C:Nat→Nat→Prop} {w:World} {bo:Nat} {hdr:Value} {outs:List (List RatD)} (h:OutW C w bo hdr outs):∀ q,hdr.ownBlock=some q→q ≠ bo∧q<w.heap.size∧∀ i,¬ C q i:=by
 obtain ⟨a,m,c,vs,rfl,h1,h2,h3⟩:=h.buf
 intro q hq
 rcases h1.1.2 with ⟨e,_⟩ | ⟨g,cap,cur,e,_,hg,_⟩
 ·rw [e] at hq;cases hq
 ·simp only [Value.slice.injEq] at e
  obtain ⟨rfl,_,_⟩:=e
  simp only [Value.ownBlock,Option.some.injEq] at hq
  subst hq
  exact ⟨(h3 _ rfl).1,(Array.getElem?_eq_some_iff.1 hg).1,(h3 _ rfl).2⟩
theorem OutW.cellsC {C C':Nat→Nat→Prop} {w w':World} {bo:Nat} {hdr:Value} {outs:List (List RatD)} (h:OutW C w bo hdr outs) (hst:Stay C C' w w') (hbo:w'.heap[bo]? = w.heap[bo]?) (hown:∀ q,hdr.ownBlock=some q→w'.heap[q]? = w.heap[q]?) (hsz:w.heap.size≤w'.heap.size) (hn1:∀ i,¬ C' bo i) (hn2:∀ q,hdr.ownBlock=some q→∀ i,¬ C' q i):OutW C' w' bo hdr outs:=by
 obtain ⟨h1,h2,h3,h4,a,m,c,vs,rfl,g1,g2,g3⟩:=h
 refine ⟨Nat.lt_of_lt_of_le h1 hsz,hn1,by rw [World.cell?_of_block (w:=w) hbo];exact h3,by rw [World.frozen?_of_block (w:=w) hbo];exact h4,a,m,c,vs,rfl,⟨⟨g1.1.1,?_⟩,g1.2⟩,CXk.stay hst 1 _ _ g2,fun b hb=>⟨(g3 b hb).1,hn2 b (by rw [hb];rfl)⟩⟩
 rcases g1.1.2 with p1 | ⟨g0,cap,cur,p1,p2,p3,p4⟩
 ·exact .inl p1
 ·refine .inr ⟨g0,cap,cur,p1,p2,?_,p4⟩
  rw [hown g0 (by rw [p1];rfl)]
  exact p3
section
variable (A:List (List RatD)) (B Cc:List RatD) (rows:List (List RatD)) (right:List RatD) (sg:Int)
def envL (n:Nat) (fv:Value):List AV:=[.loc [.int (n:Nat)],.loc [matD rows],.loc [.hv fv],.loc [ratsD right],.loc [matD A,ratsD B,ratsD Cc],.loc [.int sg]]
end
end Go.Proofs.YtkohkoiegmcghaaDoor
