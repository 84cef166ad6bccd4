/- Lemmas for the proof of FnMinimum, part 12 of 24: no condition of their own. -/
import Derived.Test.YtalkhmgfnmaaaaaJ11
import Derived.Test.YtalkhmgfnmaaaaaJ9
import Derived.Test.YtalkhmgfnmaaaaaJ8
namespace Go.Proofs.Ytalkhmgfnmaaaaa
set_option linter.unusedSimpArgs false
set_option linter.unusedVariables false
attribute [local go_sem ↓] reduceIte
attribute [local go_sem] Nat.reduceEqDiff Nat.reduceLT Nat.reduceAdd Nat.reduceLeDiff Nat.reduceMul Nat.reduceBEq Nat.reduceSub reduceCtorEq Int.reduceLE Int.reduceNeg Int.reduceLT
open Go.RowKit
def augF (rows:List (List RatD)) (right:List RatD):List (List RatD):=(List.range rows.length).map fun i=>mx rows i ++ [qx right i]
theorem augF_len (rows:List (List RatD)) (right:List RatD):(augF rows right).length=rows.length:=by simp [augF]
theorem augF_mx {rows:List (List RatD)} {right:List RatD} {i:Nat} (h:i<rows.length):mx (augF rows right) i=mx rows i ++ [qx right i]:=by simp [augF,mx,List.getD,h]
theorem augF_take {rows:List (List RatD)} {right:List RatD} {i:Nat} (h:i<rows.length):(augF rows right).take (i+1)=(augF rows right).take i ++ [mx rows i ++ [qx right i]]:=by
 have hl:i<(augF rows right).length:=by rw [augF_len];exact h
 rw [List.take_add_one,List.getElem?_eq_getElem hl,← augF_mx h,mx_lt hl]
 rfl
def pvF (R:List (List RatD)) (p n:Nat):Option Nat:=(List.range' p (n - p)).find? fun k=>!decide ((qx (mx R k) p).num=0)
theorem pv_some {R:List (List RatD)} {p n k:Nat} (hp:p≤k) (hk:k<n) (h:∀ j,p≤j→j<k→(qx (mx R j) p).num=0) (hz:¬ (qx (mx R k) p).num=0):pvF R p n=some k:=by
 unfold pvF
 rw [show n - p=(k - p)+((n - k - 1)+1) by omega,← List.range'_append_1,List.find?_append]
 have:(List.range' p (k - p)).find? (fun k=>!decide ((qx (mx R k) p).num=0))=none:=by
  rw [List.find?_eq_none]
  intro x hx
  rw [List.mem_range'_1] at hx
  simp [h x (by omega) (by omega)]
 rw [this,show p+(k - p)=k by omega,List.range'_succ,List.find?_cons_of_pos (by simp [hz])]
 rfl
theorem pv_none {R:List (List RatD)} {p n:Nat} (h:∀ j,p≤j→j<n→(qx (mx R j) p).num=0):pvF R p n=none:=by
 unfold pvF
 rw [List.find?_eq_none]
 intro x hx
 rw [List.mem_range'_1] at hx
 simp [h x (by omega) (by omega)]
def gsF (n:Nat) (R0:List (List RatD)):Nat→Option (List (List RatD))
 | 0=>some R0
 | p+1=>match gsF n R0 p with
  | none=>none
  | some R=>match pvF R p n with
   | none=>none
   | some k=>stF (swapL R p k []) p
theorem gsF_none {n:Nat} {R0:List (List RatD)} {p:Nat} (h:gsF n R0 p=none):∀ j,p≤j→gsF n R0 j=none:=by
 intro j hj
 induction hj with
 | refl=>exact h
 | step _ ih=>simp only [gsF,ih]
def outTo (R:List (List RatD)) (n:Nat):Nat→Option (List RatD)
 | 0=>some []
 | p+1=>match outTo R n p with
  | none=>none
  | some l=>if (divQ (qx (mx R p) n) (qx (mx R p) p)).2.2=true then some (l ++ [rq (divQ (qx (mx R p) n) (qx (mx R p) p))]) else none
theorem outTo_none {R:List (List RatD)} {n p:Nat} (h:outTo R n p=none):∀ j,p≤j→outTo R n j=none:=by
 intro j hj
 induction hj with
 | refl=>exact h
 | step _ ih=>simp only [outTo,ih]
theorem outTo_len {R:List (List RatD)} {n:Nat}:∀ {p:Nat} {l:List RatD},outTo R n p=some l→l.length=p
 | 0,l,h=>by simp only [outTo,Option.some.injEq] at h;subst h;rfl
 | p+1,l,h=>by
  simp only [outTo] at h
  split at h
  ·cases h
  ·rename_i l0 h0
   split at h
   ·cases h;rw [List.length_append,outTo_len h0];rfl
   ·cases h
def solF (rows:List (List RatD)) (right:List RatD):Option (List RatD):=match gsF right.length (augF rows right) right.length with
 | none=>none
 | some R=>outTo R right.length right.length
structure SysOK (rows:List (List RatD)) (right:List RatD) (n:Nat):Prop where
 n1:1≤n
 n6:n≤6
 rl:rows.length=n
 bl:right.length=n
 rr:∀ i,i<n→(mx rows i).length=n
 rv:∀ i,i<n→vL (mx rows i)=true
 bv:vL right=true
theorem SysOK.mat {rows:List (List RatD)} {right:List RatD} {n:Nat} (h:SysOK rows right n):matOK rows n n=true:=by
 unfold matOK
 rw [h.rl,decide_eq_true rfl,Bool.true_and,List.all_eq_true]
 intro r hr
 obtain ⟨i,hi,rfl⟩:=List.mem_iff_getElem.1 hr
 have hi2:i<n:=by rw [← h.rl];exact hi
 have e:=mx_lt hi
 rw [← e]
 unfold rowV
 rw [h.rr i hi2,h.rv i hi2]
 simp
theorem SysOK.aug {rows:List (List RatD)} {right:List RatD} {n:Nat} (h:SysOK rows right n):Shp n (n+1) (augF rows right):=by
 refine ⟨by rw [augF_len,h.rl],fun i hi=>?_⟩
 rw [augF_mx (by rw [h.rl];exact hi),List.length_append,h.rr i hi];rfl
theorem flat_rats (l:List RatD):((flatD (l.map ratDV)).map AV.d)=cQ l:=rfl
theorem rats_el (l:List RatD):elemsOK 2 (l.map ratDV)=true∧(flatD (l.map ratDV)).all isIntD=true:=by
 induction l with
 | nil=>exact ⟨rfl,rfl⟩
 | cons x l ih =>
  refine ⟨?_,?_⟩
  ·have:=ih.1
   simp only [elemsOK,List.map_cons,List.all_cons,Bool.and_eq_true] at this ⊢
   exact ⟨⟨rfl,rfl⟩,this⟩
  ·show (flatD (ratDV x :: l.map ratDV)).all isIntD=true
   exact ih.2
set_option maxHeartbeats 4000000 in
theorem specSolveA (rows:List (List RatD)) (right:List RatD) (n:Nat) (hS:SysOK rows right n):AFn 61 [.d (matD rows),.d (ratsD right)] [] (fun r os=>r=ansL (solF rows right)∧os=[]):=by
 obtain ⟨hn1,hn6,hrl,hbl,hrr,hrv,hbv⟩:=hS
 have hm:=SysOK.mat ⟨hn1,hn6,hrl,hbl,hrr,hrv,hbv⟩
 refine afn_ofN (args:=[matD rows,ratsD right]) (rv:=[.tmp 4,.tmp 5]) tyT_ok Try.func61 rfl (by decide +kernel) Try.ntmps61 rfl (by simp) ?_
 have z6:decide ((6:Int)<(n:Nat))=false:=decide_eq_false (by omega)
 have hbl2:(right.map ratDV).length=n:=by rw [List.length_map];exact hbl
 repeat' (first | refine sq ?_ | refine stp ?_ | refine blk_o (by decide) ?_ | (apply cb;(focus (simp (disch:=(first | omega | (simp;omega))) only [go_sem,w64,matD,z6,hbl2];try exact rfl));refine cok ?_) | (refine rgT ?_;intro K hK) | (refine dA ?_;intro K hK) | (with_reducible refine hK _ ?_;clear hK K) | (refine stq ?_;simp (disch:=(first | omega | (simp;omega))) only [go_sem,w64,matD,z6,hbl2]) | refine as1 ?_ | fail)
 (first | refine callA (squareA rows n n (by omega) (by omega) (by omega)) ?_ | refine callD (squareA rows n n (by omega) (by omega) (by omega)) ?_ | refine callE (squareA rows n n (by omega) (by omega) (by omega)) ?_ | refine callF (squareA rows n n (by omega) (by omega) (by omega)) ?_ ?_)
 rw [hm]
 repeat' (first | refine sq ?_ | refine stp ?_ | refine blk_o (by decide) ?_ | (apply cb;(focus (simp (disch:=(first | omega | (simp;omega))) only [go_sem,w64,matD];try exact rfl));refine cok ?_) | (refine rgT ?_;intro K hK) | (refine dA ?_;intro K hK) | (with_reducible refine hK _ ?_;clear hK K) | (refine stq ?_;simp (disch:=(first | omega | (simp;omega))) only [go_sem,w64,matD]) | refine as1 ?_ | fail)
 refine awp_loopw (fun mm s=>∃ (i:Nat) (ns:List Nat) (hs:List DV),mm=n - i∧i≤n∧ns.length=i∧ns.Nodup∧HdOK (n+1) hs ns∧s=mkB [(0,.d (matD rows)),(1,.d (ratsD right)),(6,.d (.int (n:Nat))),(7,.buf 28 25 1 hs),(8,.d (.int (i:Nat)))] ns ((augF rows right).take i)) ?_ ?_
 ·refine ⟨_,_,?_,0,[],[],rfl,Nat.zero_le _,rfl,List.nodup_nil,.nil,rfl⟩
  refine sle_mkB0 (by simp (disch:=(first | omega | (simp;omega))) only [go_sem,w64] <;> exact leafs)
 ·rintro mm s ⟨i,ns,hs,rfl,hi,hnl,hnd,hH,rfl⟩
  repeat' (first | refine sq ?_ | refine stp ?_ | refine blk_o (by decide) ?_ | (apply cb;(focus (simp (disch:=(first | omega | (simp;omega))) only [go_sem,w64];try exact rfl));refine cok ?_) | (refine rgT ?_;intro K hK) | (refine dA ?_;intro K hK) | (with_reducible refine hK _ ?_;clear hK K) | (refine stq ?_;simp (disch:=(first | omega | (simp;omega))) only [go_sem,w64]) | refine as1 ?_ | fail)
  refine awp_if (p:=(i:Int)<(n:Nat)) (by simp (disch:=(first | omega | (simp;omega))) only [go_sem,w64]) ?_ ?_ <;> intro hc
  ·have hi2:i<n:=by omega
   have g1:(right.map ratDV).getD i (.bool false)=ratDV (qx right i):=getDq (by omega)
   repeat' (first | refine sq ?_ | refine stp ?_ | refine blk_o (by decide) ?_ | (apply cb;(focus (simp (disch:=(first | omega | (simp;omega))) only [go_sem,w64,matD,ratsD,g1,hbl2,ratDV];try exact rfl));refine cok ?_) | (refine rgT ?_;intro K hK) | (refine dA ?_;intro K hK) | (with_reducible refine hK _ ?_;clear hK K) | (refine stq ?_;simp (disch:=(first | omega | (simp;omega))) only [go_sem,w64,matD,ratsD,g1,hbl2,ratDV]) | refine as1 ?_ | fail)
   (first | refine callA (specValidRA (qx right i)) ?_ | refine callD (specValidRA (qx right i)) ?_ | refine callE (specValidRA (qx right i)) ?_ | refine callF (specValidRA (qx right i)) ?_ ?_)
   have v1:vR (qx right i)=true:=vL_at hbv (by omega)
   rw [v1]
   repeat' (first | refine sq ?_ | refine stp ?_ | refine blk_o (by decide) ?_ | (apply cb;(focus (simp (disch:=(first | omega | (simp;omega))) only [go_sem,w64];try exact rfl));refine cok ?_) | (refine rgT ?_;intro K hK) | (with_reducible refine hK _ ?_;clear hK K) | (refine stq ?_;simp (disch:=(first | omega | (simp;omega))) only [go_sem,w64]) | refine as1 ?_ | fail)
   refine awp_weak (sle_mkB (tl:=[(0,.d (matD rows)),(1,.d (ratsD right)),(6,.d (.int (n:Nat))),(7,.buf 28 25 1 hs),(8,.d (.int (i:Nat)))]) (ns:=ns) (R:=(augF rows right).take i) (by simp (disch:=(first | omega | (simp;omega))) only [go_sem,w64] <;> exact leafs) (fun b=>by simp (disch:=(first | omega | (simp;omega))) only [go_sem,w64]) hH.nbs) ?_
   have g2:(rows.map ratsD).getD i (.bool false)=ratsD (mx rows i):=getDm (by omega)
   have lr:=hrr i hi2
   have hrl2:(rows.map ratsD).length=n:=by rw [List.length_map];exact hrl
   refine awp_drawRow [42,43,44,45,46,47,48,49,50,51,52,53] tyT_ok (by kernel_rfl) 13 53 (d0:=41) rfl rfl rfl rfl (by decide) (by decide) (by kernel_rfl) (by kernel_rfl) (by decide) (by decide) (by kernel_rfl) (by decide) (s':=mkS [(0,.d (matD rows)),(1,.d (ratsD right)),(8,.d (.int (i:Nat)))] []) (sle_mk (by simp (disch:=(first | omega | (simp;omega))) only [go_sem,w64] <;> exact leafs) trivial) (by simp (disch:=(first | omega | (simp;omega))) only [go_sem,w64]) (fun _ h=>h) ?_
   intro K0 hK0 K hK
   simp only [List.take_succ_cons,List.take_zero,List.drop_succ_cons,List.drop_zero]
   repeat' (first | refine sq ?_ | refine stp ?_ | refine blk_o (by decide) ?_ | (apply cb;(focus (simp (disch:=(first | omega | (simp;omega))) only [go_sem,w64,matD,ratsD,g1,g2,hbl2,hrl2,ratDV];try exact rfl));refine cok ?_) | (refine rgT ?_;intro K hK) | (refine dA ?_;intro K hK) | (with_reducible refine hK _ ?_;clear hK K) | (refine stq ?_;simp (disch:=(first | omega | (simp;omega))) only [go_sem,w64,matD,ratsD,g1,g2,hbl2,hrl2,ratDV]) | refine as1 ?_ | fail)
   have hrow:(mx rows i).map ratDV ++ [ratDV (qx right i)]=(mx rows i ++ [qx right i]).map ratDV:=by simp
   refine ⟨42,_,2,(mx rows i ++ [qx right i]).map ratDV,by simp (disch:=(first | omega | (simp;omega))) only [go_sem,w64];rw [← hrow];rfl,by simp,by decide,(rats_el _).1,(rats_el _).2,fun b c hb hc1 hc2=>?_⟩
   rw [flat_rats]
   clear hrow
   revert hK0
   revert K0
   intro K hK
   have hbn:obN ns ((augF rows right).take i) (nb b)=none:=by rw [← mkB_ob];exact hb
   have hlR:((augF rows right).take i).length=ns.length:=by rw [List.length_take,augF_len];omega
   have hnot:=obN_mem hlR hnd hbn
   have hhl:hs.length=i:=hH.len.trans hnl
   have lrow:(mx rows i ++ [qx right i]).length=n+1:=by rw [List.length_append,lr];rfl
   have hc3:n+1≤c:=by rw [List.length_map,lrow] at hc1;exact hc1
   repeat' (first | refine sq ?_ | refine stp ?_ | refine blk_o (by decide) ?_ | (apply cb;(focus (simp (disch:=(first | omega | (simp;omega))) only [go_sem,w64,hdV,lrow];try exact rfl));refine cok ?_) | (refine rgT ?_;intro K hK) | (refine dA ?_;intro K hK) | (with_reducible refine hK _ ?_;clear hK K) | (refine stq ?_;simp (disch:=(first | omega | (simp;omega))) only [go_sem,w64,hdV,lrow]) | refine as1 ?_ | fail)
   refine ⟨n - (i+1),_,by omega,?_,i+1,ns ++ [nb b],hs ++ [hdV b (n+1) c],rfl,by omega,by rw [List.length_append,hnl];rfl,?_,hH.snoc hc3 hc2,rfl⟩
   ·refine sle_mkB (by simp (disch:=(first | omega | (simp;omega))) only [go_sem,w64] <;> exact leafs) (fun b'=>?_) (hH.snoc hc3 hc2).nbs
    rw [augF_take (by omega),obN_snoc hlR hnot]
    simp (disch:=(first | omega | (simp;omega))) only [go_sem,w64]
    by_cases e:b'=b
    ·simp only [if_pos e,Option.map_some,cQ_scr]
    ·simp only [if_neg e,obN_scr]
   ·rw [List.nodup_append]
    exact ⟨hnd,by simp,fun x hx y hy e=>hnot (by rw [List.mem_singleton] at hy;rw [← hy,← e];exact hx)⟩
  ·obtain rfl:n=i:=by omega
   have hSh:Shp n (n+1) (augF rows right):=SysOK.aug ⟨hn1,hn6,hrl,hbl,hrr,hrv,hbv⟩
   have hsol:∀ j,j≤n→gsF n (augF rows right) j=none→solF rows right=none:=fun j hj h=>by
    unfold solF;rw [hbl,gsF_none h n hj]
   rw [List.take_of_length_le (by rw [augF_len];omega)]
   repeat' (first | refine sq ?_ | refine stp ?_ | refine blk_o (by decide) ?_ | (apply cb;(focus (simp (disch:=(first | omega | (simp;omega))) only [go_sem,w64];try exact rfl));refine cok ?_) | (with_reducible refine hK _ ?_;clear hK K) | (refine stq ?_;simp (disch:=(first | omega | (simp;omega))) only [go_sem,w64]) | refine as1 ?_ | fail)
   refine awp_weak (sle_mkB (tl:=[(6,.d (.int (n:Nat))),(7,.buf 28 25 1 hs)]) (ns:=ns) (R:=augF rows right) (by simp (disch:=(first | omega | (simp;omega))) only [go_sem,w64] <;> exact leafs) (fun b=>by simp (disch:=(first | omega | (simp;omega))) only [go_sem,w64]) hH.nbs) ?_
   obtain ⟨M0,hM1,hM2⟩:∃ M0:Mat n (n+1),M0.ns=ns∧M0.R=augF rows right:=⟨⟨ns,augF rows right,hnl,hSh,hnd,fun x hx=>by obtain ⟨b,rfl⟩:=hH.nbs x hx;rw [nb_eq];omega⟩,rfl,rfl⟩
   rw [← hM1,← hM2]
   rw [← hM1] at hH
   have h00:gsF n (augF rows right) 0=some M0.R:=by rw [hM2];rfl
   clear hM1 hM2 hnl hnd
   refine awp_matM (tl':=[(6,.d (.int (n:Nat))),(7,.arr 500000 1 n)]) 7 M0 (fun _ h=>h) (by decide) (by rfl) hH (by omega) ?_ (by simp (disch:=(first | omega | (simp;omega))) only [go_sem,w64] <;> exact leafs) ?_
   ·intro t' ht'
    simp only [lkT]
    split
    ·rfl
    ·first | trivial | (rw [if_neg ht'];trivial)
   clear hH hs ns
   repeat' (first | refine sq ?_ | refine stp ?_ | refine blk_o (by decide) ?_ | (apply cb;(focus (simp (disch:=(first | omega | (simp;omega))) only [go_sem,w64];try exact rfl));refine cok ?_) | (refine rgT ?_;intro K hK) | (refine dA ?_;intro K hK) | (with_reducible refine hK _ ?_;clear hK K) | (refine stq ?_;simp (disch:=(first | omega | (simp;omega))) only [go_sem,w64]) | refine as1 ?_ | fail)
   refine awp_loopw (fun mm s=>∃ (p:Nat) (M:Mat n (n+1)),mm=n - p∧p≤n∧gsF n (augF rows right) p=some M.R∧s=mkM [(6,.d (.int (n:Nat))),(7,.arr 500000 1 n),(9,.d (.int (p:Nat)))] [] M) ?_ ?_
   ·refine ⟨_,_,?_,0,M0,rfl,Nat.zero_le _,h00,rfl⟩
    refine sle_mkM (by simp (disch:=(first | omega | (simp;omega))) only [go_sem,w64] <;> exact leafs) trivial (by simp (disch:=(first | omega | (simp;omega))) only [go_sem,w64]) (fun i hi=>by simp (disch:=(first | omega | (simp;omega))) only [go_sem,w64])
   ·clear h00 M0
    rintro mm s ⟨p,M,rfl,hp,hG,rfl⟩
    repeat' (first | refine sq ?_ | refine stp ?_ | refine blk_o (by decide) ?_ | (apply cb;(focus (simp (disch:=(first | omega | (simp;omega))) only [go_sem,w64];try exact rfl));refine cok ?_) | (refine rgT ?_;intro K hK) | (refine dA ?_;intro K hK) | (with_reducible refine hK _ ?_;clear hK K) | (refine stq ?_;simp (disch:=(first | omega | (simp;omega))) only [go_sem,w64]) | refine as1 ?_ | fail)
    refine awp_if (p:=(p:Int)<(n:Nat)) (by simp (disch:=(first | omega | (simp;omega))) only [go_sem,w64]) ?_ ?_ <;> intro hc
    ·have hp2:p<n:=by omega
     have hG1:gsF n (augF rows right) (p+1)=match pvF M.R p n with | none=>none | some k=>stF (swapL M.R p k []) p:=by simp only [gsF,hG]
     repeat' (first | refine sq ?_ | refine stp ?_ | refine blk_o (by decide) ?_ | (apply cb;(focus (simp (disch:=(first | omega | (simp;omega))) only [go_sem,w64];try exact rfl));refine cok ?_) | (refine rgT ?_;intro K hK) | (refine dA ?_;intro K hK) | (with_reducible refine hK _ ?_;clear hK K) | (refine stq ?_;simp (disch:=(first | omega | (simp;omega))) only [go_sem,w64]) | refine as1 ?_ | fail)
     refine awp_loopw (fun mm s=>∃ (k:Nat),mm=n - k∧p≤k∧k≤n∧(∀ j,p≤j→j<k→(qx (M.row j) p).num=0)∧s=mkM [(6,.d (.int (n:Nat))),(7,.arr 500000 1 n),(9,.d (.int (p:Nat))),(10,.d (.int (k:Nat)))] [] M) ?_ ?_
     ·refine ⟨_,_,?_,p,rfl,Nat.le_refl _,hp,fun j h1 h2=>by omega,rfl⟩
      refine sle_mkM (by simp (disch:=(first | omega | (simp;omega))) only [go_sem,w64] <;> exact leafs) trivial (by simp (disch:=(first | omega | (simp;omega))) only [go_sem,w64]) (fun i hi=>by simp (disch:=(first | omega | (simp;omega))) only [go_sem,w64])
     ·rintro mm s ⟨k,rfl,hk1,hk2,hz,rfl⟩
      by_cases hkn:k<n
      ·have zk:decide ((k:Int)<(n:Nat))=true:=decide_eq_true (by omega)
       have lk:=rowM_len (M:=M) hkn
       have e1:(cQ (M.row k)).getD (p*2+0) .junk=.d (.int (qx (M.row k) p).num):=cQ_num (M.row k) p (by omega) .junk
       have nk:=cQ_len (M.row k)
       by_cases hzk:(qx (M.row k) p).num=0
       ·have z2:decide ((qx (M.row k) p).num=0)=true:=decide_eq_true hzk
        repeat' (first | refine sq ?_ | refine stp ?_ | refine blk_o (by decide) ?_ | (apply cb;(focus (simp (disch:=(first | omega | (simp;omega))) only [go_sem,w64,zk,e1,nk,lk,z2];try exact rfl));refine cok ?_) | (refine rgT ?_;intro K hK) | (refine dA ?_;intro K hK) | (with_reducible refine hK _ ?_;clear hK K) | (refine stq ?_;simp (disch:=(first | omega | (simp;omega))) only [go_sem,w64,zk,e1,nk,lk,z2]) | refine as1 ?_ | fail)
        refine ⟨n - (k+1),_,by omega,?_,k+1,rfl,by omega,by omega,fun j h1 h2=>?_,rfl⟩
        ·refine sle_mkM (by simp (disch:=(first | omega | (simp;omega))) only [go_sem,w64] <;> exact leafs) trivial (by simp (disch:=(first | omega | (simp;omega))) only [go_sem,w64]) (fun i hi=>by simp (disch:=(first | omega | (simp;omega))) only [go_sem,w64])
        ·by_cases e:j=k
         ·rw [e];exact hzk
         ·exact hz j h1 (by omega)
       ·have z2:decide ((qx (M.row k) p).num=0)=false:=decide_eq_false hzk
        have z3:decide ((k:Int)=(n:Nat))=false:=decide_eq_false (by omega)
        have hpv:pvF M.R p n=some k:=pv_some hk1 hkn hz hzk
        rw [hpv] at hG1
        replace hG1:gsF n (augF rows right) (p+1)=stF (swapL M.R p k []) p:=hG1
        have hlh:=hdrM_len M
        have hgp:=hdrM_getD (M:=M) hp2
        have hgk:=hdrM_getD (M:=M) hkn
        repeat' (first | refine sq ?_ | refine stp ?_ | refine blk_o (by decide) ?_ | (apply cb;(focus (simp (disch:=(first | omega | (simp;omega))) only [go_sem,w64,zk,e1,nk,lk,z2,z3];try exact rfl));refine cok ?_) | (refine rgT ?_;intro K hK) | (refine dA ?_;intro K hK) | (with_reducible refine hK _ ?_;clear hK K) | (refine stq ?_;simp (disch:=(first | omega | (simp;omega))) only [go_sem,w64,zk,e1,nk,lk,z2,z3]) | refine as1 ?_ | fail)
        refine acall_mat (M:=M.swap p k hp2 hkn) (stepA (swapL M.R p k []) n (n+1) p (M.swap p k hp2 hkn).hs hp2 (by omega) hn6 (by omega)) (by (repeat (first | exact ASubs.nil | refine ASubs.cons (by first | exact ASub.d _ | exact ASub.dd (dle_wh _ _) | exact ASub.dd (dle_rowsV _) | exact ASub.dd (dle_rowsW _) | exact ASub.dd (dle_relW _ _) | exact ASub.bufd _ _ (dle_rowsV _) | exact ASub.nil _ | exact ASub.nn | exact ASub.buf _ _ _ _ | exact ASub.loc _ | exact ASub.ptr _ _ _ rfl | exact ASub.arr _ _ _ _ rfl | exact ASub.any _ | exact ASub.std rfl (dle_refl _)) ?_));done) (by decide) (by rw [← swapM_hdr];simp (disch:=(first | omega | (simp;omega))) only [go_sem,w64]) (fun i hi=>?_) (fun r os hr=>?_)
        ·rw [swapM_nm,swapM_row]
         have hs9:(if i=p then k else if i=k then p else i)<n:=by split <;> (try split) <;> omega
         generalize (if i=p then k else if i=k then p else i)=q at hs9 ⊢
         simp (disch:=(first | omega | (simp;omega))) only [go_sem,w64]
        ·obtain ⟨R',hR',rfl,rfl,hx⟩:=hr
         refine ⟨by simp [hR'.1],?_⟩
         have hch:∀ s:AS,(s.call (500000 :: (M.swap p k hp2 hkn).ns) 99 (mC0 n (n+1) :: R'.map cQ)).ob 500000=some (M.swap p k hp2 hkn).hdr:=fun s=>callM_h (by decide) R'
         have hcr:∀ (s:AS) (i:Nat),i<n→(s.call (500000 :: (M.swap p k hp2 hkn).ns) 99 (mC0 n (n+1) :: R'.map cQ)).ob ((M.swap p k hp2 hkn).nm i)=some (cQ (mx R' i)):=fun s i hi=>callM_r (by decide) hR'.1 hi
         cases hst:stF (swapL M.R p k []) p with
         | none =>
          rw [hst] at hG1
          repeat' (first | refine sq ?_ | refine stp ?_ | refine blk_o (by decide) ?_ | (apply cb;(focus (simp (disch:=(first | omega | (simp;omega))) only [go_sem,w64,callM_tm,Option.isSome_none,Bool.not_false];try exact rfl));refine cok ?_) | (refine rgT ?_;intro K hK) | (refine dA ?_;intro K hK) | (with_reducible refine hK _ ?_;clear hK K) | (refine stq ?_;simp (disch:=(first | omega | (simp;omega))) only [go_sem,w64,callM_tm,Option.isSome_none,Bool.not_false]) | refine as1 ?_ | fail)
          (refine endA (r:=.tup [.d (.sl 2 []),.d (.bool false)]) ?_)
          exact ⟨by rw [hsol (p+1) (by omega) hG1];rfl,rfl⟩
         | some R2 =>
          rw [hst] at hG1 hx
          obtain rfl:=hx R2 rfl
          repeat' (first | refine sq ?_ | refine stp ?_ | refine blk_o (by decide) ?_ | (apply cb;(focus (simp (disch:=(first | omega | (simp;omega))) only [go_sem,w64,callM_tm,Option.isSome_some,Bool.not_true];try exact rfl));refine cok ?_) | (refine rgT ?_;intro K hK) | (refine dA ?_;intro K hK) | (with_reducible refine hK _ ?_;clear hK K) | (refine stq ?_;simp (disch:=(first | omega | (simp;omega))) only [go_sem,w64,callM_tm,Option.isSome_some,Bool.not_true]) | refine as1 ?_ | fail)
          refine ⟨n - (p+1),_,by omega,?_,p+1,(M.swap p k hp2 hkn).withR R' hR',rfl,by omega,hG1,rfl⟩
          refine sle_mkM (by simp (disch:=(first | omega | (simp;omega))) only [go_sem,w64] <;> exact leafs) trivial ?_ (fun i hi=>?_)
          ·simp only [put_ob];exact hch _
          ·simp only [put_ob];exact hcr _ i hi
      ·obtain rfl:k=n:=by omega
       have zk:decide ((k:Int)<(k:Nat))=false:=decide_eq_false (by omega)
       have z3:decide ((k:Int)=(k:Nat))=true:=decide_eq_true rfl
       have hpv:pvF M.R p k=none:=pv_none hz
       rw [hpv] at hG1
       repeat' (first | refine sq ?_ | refine stp ?_ | refine blk_o (by decide) ?_ | (apply cb;(focus (simp (disch:=(first | omega | (simp;omega))) only [go_sem,w64,zk,z3];try exact rfl));refine cok ?_) | (refine rgT ?_;intro K hK) | (refine dA ?_;intro K hK) | (with_reducible refine hK _ ?_;clear hK K) | (refine stq ?_;simp (disch:=(first | omega | (simp;omega))) only [go_sem,w64,zk,z3]) | refine as1 ?_ | fail)
       (refine endA (r:=.tup [.d (.sl 2 []),.d (.bool false)]) ?_)
       exact ⟨by rw [hsol (p+1) (by omega) hG1];rfl,rfl⟩
    ·obtain rfl:n=p:=by omega
     have hso:solF rows right=outTo M.R n n:=by unfold solF;rw [hbl,hG]
     repeat' (first | refine sq ?_ | refine stp ?_ | refine blk_o (by decide) ?_ | (apply cb;(focus (simp (disch:=(first | omega | (simp;omega))) only [go_sem,w64];try exact rfl));refine cok ?_) | (refine rgT ?_;intro K hK) | (refine dA ?_;intro K hK) | (with_reducible refine hK _ ?_;clear hK K) | (refine stq ?_;simp (disch:=(first | omega | (simp;omega))) only [go_sem,w64]) | refine as1 ?_ | fail)
     refine awp_loopw (fun mm s=>∃ (p:Nat) (l:List RatD),mm=n - p∧p≤n∧outTo M.R n p=some l∧s=mkM [(6,.d (.int (n:Nat))),(7,.arr 500000 1 n),(12,.buf 102 32 2 (l.map ratDV)),(13,.d (.int (p:Nat)))] [] M) ?_ ?_
     ·refine ⟨_,_,?_,0,[],rfl,Nat.zero_le _,rfl,rfl⟩
      refine sle_mkM (by simp (disch:=(first | omega | (simp;omega))) only [go_sem,w64] <;> exact leafs) trivial (by simp (disch:=(first | omega | (simp;omega))) only [go_sem,w64]) (fun i hi=>by simp (disch:=(first | omega | (simp;omega))) only [go_sem,w64])
     ·rintro mm s ⟨p,l,rfl,hp3,ho,rfl⟩
      repeat' (first | refine sq ?_ | refine stp ?_ | refine blk_o (by decide) ?_ | (apply cb;(focus (simp (disch:=(first | omega | (simp;omega))) only [go_sem,w64];try exact rfl));refine cok ?_) | (refine rgT ?_;intro K hK) | (refine dA ?_;intro K hK) | (with_reducible refine hK _ ?_;clear hK K) | (refine stq ?_;simp (disch:=(first | omega | (simp;omega))) only [go_sem,w64]) | refine as1 ?_ | fail)
      refine awp_if (p:=(p:Int)<(n:Nat)) (by simp (disch:=(first | omega | (simp;omega))) only [go_sem,w64]) ?_ ?_ <;> intro hc
      ·have hp4:p<n:=by omega
       have lp:=rowM_len (M:=M) hp4
       have np:=cQ_len (M.row p)
       have d1:=cQ_ld (M.row p) n (by omega)
       have d2:=cQ_ld (M.row p) p (by omega)
       have hs:outTo M.R n (p+1)=if (divQ (qx (M.row p) n) (qx (M.row p) p)).2.2=true then some (l ++ [rq (divQ (qx (M.row p) n) (qx (M.row p) p))]) else none:=by simp only [outTo,ho];rfl
       have hll:l.length=p:=outTo_len ho
       repeat' (first | refine sq ?_ | refine stp ?_ | refine blk_o (by decide) ?_ | (apply cb;(focus (simp (disch:=(first | omega | (simp;omega))) only [go_sem,w64,lp,np,d1,d2];try exact rfl));refine cok ?_) | (refine rgT ?_;intro K hK) | (refine dA ?_;intro K hK) | (with_reducible refine hK _ ?_;clear hK K) | (refine stq ?_;simp (disch:=(first | omega | (simp;omega))) only [go_sem,w64,lp,np,d1,d2]) | refine as1 ?_ | fail)
       (first | refine callA (specDivA (qx (M.row p) n) (qx (M.row p) p)) ?_ | refine callD (specDivA (qx (M.row p) n) (qx (M.row p) p)) ?_ | refine callE (specDivA (qx (M.row p) n) (qx (M.row p) p)) ?_ | refine callF (specDivA (qx (M.row p) n) (qx (M.row p) p)) ?_ ?_)
       generalize divQ (qx (M.row p) n) (qx (M.row p) p)=t at hs ⊢
       cases ht:t.2.2 with
       | false =>
        rw [if_neg (by rw [ht];simp)] at hs
        repeat' (first | refine sq ?_ | refine stp ?_ | refine blk_o (by decide) ?_ | (apply cb;(focus (simp (disch:=(first | omega | (simp;omega))) only [go_sem,w64,tupQ,ratDV,ht];try exact rfl));refine cok ?_) | (refine rgT ?_;intro K hK) | (refine dA ?_;intro K hK) | (with_reducible refine hK _ ?_;clear hK K) | (refine stq ?_;simp (disch:=(first | omega | (simp;omega))) only [go_sem,w64,tupQ,ratDV,ht]) | refine as1 ?_ | fail)
        (refine endA (r:=.tup [.d (.sl 2 []),.d (.bool false)]) ?_)
        exact ⟨by rw [hso,outTo_none hs n (by omega)];rfl,rfl⟩
       | true =>
        rw [if_pos ht] at hs
        repeat' (first | refine sq ?_ | refine stp ?_ | refine blk_o (by decide) ?_ | (apply cb;(focus (simp (disch:=(first | omega | (simp;omega))) only [go_sem,w64,tupQ,ratDV,ht];try exact rfl));refine cok ?_) | (refine rgT ?_;intro K hK) | (refine dA ?_;intro K hK) | (with_reducible refine hK _ ?_;clear hK K) | (refine stq ?_;simp (disch:=(first | omega | (simp;omega))) only [go_sem,w64,tupQ,ratDV,ht]) | refine as1 ?_ | fail)
        refine ⟨n - (p+1),_,by omega,?_,p+1,l ++ [rq t],rfl,by omega,hs,rfl⟩
        refine sle_mkM (by simp (disch:=(first | omega | (simp;omega))) only [go_sem,w64,List.map_append,List.map_cons,List.map_nil,ratDV] <;> exact leafs) trivial (by simp (disch:=(first | omega | (simp;omega))) only [go_sem,w64]) (fun i hi=>by simp (disch:=(first | omega | (simp;omega))) only [go_sem,w64])
      ·obtain rfl:n=p:=by omega
       repeat' (first | refine sq ?_ | refine stp ?_ | refine blk_o (by decide) ?_ | (apply cb;(focus (simp (disch:=(first | omega | (simp;omega))) only [go_sem,w64];try exact rfl));refine cok ?_) | (refine rgT ?_;intro K hK) | (refine dA ?_;intro K hK) | (with_reducible refine hK _ ?_;clear hK K) | (refine stq ?_;simp (disch:=(first | omega | (simp;omega))) only [go_sem,w64]) | refine as1 ?_ | fail)
       (refine endA (r:=.tup [.d (ratsD l),.d (.bool true)]) ?_)
       exact ⟨by rw [hso,ho];rfl,rfl⟩
end Go.Proofs.Ytalkhmgfnmaaaaa
namespace Go.Proofs.Ytalkhmgfnmaaaaa
set_option linter.unusedSimpArgs false
set_option linter.unusedVariables false
open Go.RowKit
def qv (x:RatD):Rat:=(x.num:Rat) / (x.den:Rat)
theorem castNe {d:Int} (h:d ≠ 0):(d:Rat) ≠ 0:=fun e=>h (by exact_mod_cast e)
theorem castPos {d:Int} (h:0<d):(0:Rat)<(d:Rat):=by exact_mod_cast h
theorem vR_pos {x:RatD} (h:vR x=true):0<x.den:=by have:=(ratOK_out h).1;omega
theorem div_gcd (n d:Int) (hd:0<d):∃ g:Nat,Nat.gcd n.natAbs d.toNat=g∧0<g∧(g:Int)*n.tdiv g=n∧(g:Int)*d.tdiv g=d∧0<d.tdiv g∧Nat.gcd (n.tdiv g).natAbs (d.tdiv g).toNat=1:=by
 refine ⟨_,rfl,Nat.gcd_pos_of_pos_right _ (by omega),?_,?_,?_,?_⟩
 ·have h:((Nat.gcd n.natAbs d.toNat:Nat):Int) ∣ n:=Int.ofNat_dvd_left.2 (Nat.gcd_dvd_left _ _)
  exact Int.mul_tdiv_cancel' h
 ·have h:((Nat.gcd n.natAbs d.toNat:Nat):Int) ∣ d:=Int.ofNat_dvd_left.2 (by have:=Nat.gcd_dvd_right n.natAbs d.toNat;rwa [show d.natAbs=d.toNat by omega])
  exact Int.mul_tdiv_cancel' h
 ·have h:((Nat.gcd n.natAbs d.toNat:Nat):Int) ∣ d:=Int.ofNat_dvd_left.2 (by have:=Nat.gcd_dvd_right n.natAbs d.toNat;rwa [show d.natAbs=d.toNat by omega])
  have e:=Int.mul_tdiv_cancel' h
  have hg:0<Nat.gcd n.natAbs d.toNat:=Nat.gcd_pos_of_pos_right _ (by omega)
  refine Int.not_le.1 fun hle=>?_
  have:=Int.mul_nonpos_of_nonneg_of_nonpos (a:=((Nat.gcd n.natAbs d.toNat:Nat):Int)) (by omega) hle
  omega
 ·have hg:0<Nat.gcd n.natAbs d.toNat:=Nat.gcd_pos_of_pos_right _ (by omega)
  have h1:(n.tdiv (Nat.gcd n.natAbs d.toNat:Nat)).natAbs=n.natAbs / Nat.gcd n.natAbs d.toNat:=by rw [Int.natAbs_tdiv];rfl
  have h2:(d.tdiv (Nat.gcd n.natAbs d.toNat:Nat)).toNat=d.toNat / Nat.gcd n.natAbs d.toNat:=by
   rw [Int.tdiv_eq_ediv_of_nonneg (by omega)]
   have e:d=(d.toNat:Int):=by omega
   generalize d.toNat=m at *
   subst e
   rw [← Int.natCast_ediv]
   rfl
  rw [h1,h2]
  rw [Nat.gcd_div (Nat.gcd_dvd_left _ _) (Nat.gcd_dvd_right _ _),Nat.div_self hg]
theorem frac_red {n d a b g:Int} (hg:0<g) (hb:0<b) (h1:g*a=n) (h2:g*b=d):(a:Rat) / (b:Rat)=(n:Rat) / (d:Rat):=by
 subst h1;subst h2
 have:=castNe (d:=g) (by omega)
 have:=castNe (d:=b) (by omega)
 rw [Rat.intCast_mul,Rat.intCast_mul]
 grind
theorem newRat_v {n d:Int} (h:(newRat n d).2.2=true):d ≠ 0∧qv (rq (newRat n d))=(n:Rat) / (d:Rat):=by
 by_cases hc:d=0∨¬ (-4000000000000000000≤n∧n≤4000000000000000000)∨¬ (-4000000000000000000≤d∧d≤4000000000000000000)
 ·unfold newRat at h;rw [if_pos hc] at h;cases h
 ·refine ⟨by omega,?_⟩
  by_cases h0:0<d
  ·obtain ⟨g,hg,hg0,e1,e2,hb,_⟩:=div_gcd n d h0
   rw [newRat_pos h0 (by omega) (by omega) hg] at h ⊢
   split at h
   ·rename_i hok
    rw [if_pos hok]
    exact frac_red (g:=g) (by omega) hb e1 e2
   ·cases h
  ·have h0:d<0:=by omega
   obtain ⟨g,hg,hg0,e1,e2,hb,_⟩:=div_gcd (-n) (-d) (by omega)
   rw [newRat_neg h0 (by omega) (by omega) hg] at h ⊢
   split at h
   ·rename_i hok
    rw [if_pos hok]
    have:=frac_red (g:=g) (by omega) hb e1 e2
    simp only [qv,rq]
    rw [this,Rat.intCast_neg,Rat.intCast_neg]
    have:=castNe (d:=d) (by omega)
    grind
   ·cases h
theorem newRat_fit {n d a b:Int} (hd:d ≠ 0) (h1:-4000000000000000000≤n∧n≤4000000000000000000) (h2:-4000000000000000000≤d∧d≤4000000000000000000) (hb:1≤b∧b≤1000000000) (ha:-1000000000≤a∧a≤1000000000) (e:n*b=a*d):(newRat n d).2.2=true:=by
 have key:∀ n d:Int,0<d→n*b=a*d→∀ g:Nat,Nat.gcd n.natAbs d.toNat=g→ratOK (n.tdiv g) (d.tdiv g)=true:=by
  intro n d hd e g hg
  obtain ⟨g',hg',hg0,e1,e2,hq,hc⟩:=div_gcd n d hd
  rw [hg] at hg'
  subst hg'
  generalize n.tdiv g=p at *
  generalize d.tdiv g=q at *
  have e3:p*b=a*q:=by
   have:(g:Int)*(p*b)=g*(a*q):=by rw [← Int.mul_assoc,e1,e,← Int.mul_assoc,Int.mul_comm (g:Int) a,Int.mul_assoc,e2]
   exact Int.eq_of_mul_eq_mul_left (by omega) this
  have hqb:q.toNat ∣ b.toNat:=by
   have h3:q.toNat ∣ p.natAbs*b.toNat:=by
    have:(p*b).natAbs=p.natAbs*b.toNat:=by rw [Int.natAbs_mul];congr 1;omega
    rw [← this,e3,Int.natAbs_mul,show q.natAbs=q.toNat by omega]
    exact Nat.dvd_mul_left _ _
   exact Nat.Coprime.dvd_of_dvd_mul_left (by rw [Nat.coprime_iff_gcd_eq_one,Nat.gcd_comm];exact hc) h3
  obtain ⟨k,hk⟩:=hqb
  have hkb:b=q*k:=by
   have:(b.toNat:Int)=(q.toNat*k:Nat):=by rw [hk]
   rw [Int.natCast_mul] at this
   rw [show ((q.toNat:Nat):Int)=q by omega] at this
   omega
  have hk0:0<k:=by
   rcases Nat.eq_zero_or_pos k with h | h
   ·subst h;simp at hkb;omega
   ·exact h
  have hpa:p*k=a:=by
   rw [hkb] at e3
   have:q*(p*k)=q*a:=by rw [← Int.mul_assoc,Int.mul_comm q p,Int.mul_assoc,e3,Int.mul_comm]
   exact Int.eq_of_mul_eq_mul_left (by omega) this
  have hq1:q≤b:=by
   rw [hkb]
   have:=Int.mul_le_mul_of_nonneg_left (show (1:Int)≤k by omega) (show 0≤q by omega)
   omega
  have hp1:p.natAbs≤a.natAbs:=by
   rw [← hpa,Int.natAbs_mul]
   exact Nat.le_mul_of_pos_right _ (by omega)
  simp only [ratOK,Bool.and_eq_true,decide_eq_true_eq]
  exact ⟨by omega,by omega,hc⟩
 by_cases h0:0<d
 ·rw [newRat_pos h0 (by omega) h1 rfl,if_pos (key n d h0 e _ rfl)]
 ·rw [newRat_neg (by omega) (by omega) h1 rfl,if_pos (key (-n) (-d) (by omega) (by rw [Int.neg_mul,e,Int.mul_neg]) _ rfl)]
section
variable {x y:RatD}
theorem addQ_ok (h:(addQ x y).2.2=true):vR x=true∧vR y=true∧qv (rq (addQ x y))=qv x+qv y:=by
 unfold addQ addR at h ⊢
 split at h
 ·rename_i hb
  obtain ⟨b1,b2⟩:=bothOK_out hb
  refine ⟨b1,b2,?_⟩
  rw [if_pos hb,(newRat_v h).2]
  have:=castNe (d:=x.den) (by have:=(ratOK_b b1).2.2;omega)
  have:=castNe (d:=y.den) (by have:=(ratOK_b b2).2.2;omega)
  simp only [qv,Rat.intCast_mul,Rat.intCast_add]
  grind
 ·cases h
theorem mulQ_ok (h:(mulQ x y).2.2=true):vR x=true∧vR y=true∧qv (rq (mulQ x y))=qv x*qv y:=by
 unfold mulQ mulR at h ⊢
 split at h
 ·rename_i hb
  obtain ⟨b1,b2⟩:=bothOK_out hb
  refine ⟨b1,b2,?_⟩
  rw [if_pos hb,(newRat_v h).2]
  have:=castNe (d:=x.den) (by have:=(ratOK_b b1).2.2;omega)
  have:=castNe (d:=y.den) (by have:=(ratOK_b b2).2.2;omega)
  simp only [qv,Rat.intCast_mul]
  grind
 ·cases h
theorem divQ_ok (h:(divQ x y).2.2=true):vR x=true∧vR y=true∧y.num ≠ 0∧qv (rq (divQ x y))=qv x / qv y:=by
 unfold divQ divR at h ⊢
 split at h
 ·rename_i hb
  obtain ⟨b1,b2⟩:=bothOK_out hb
  have hv:=newRat_v h
  have h0:y.num ≠ 0:=fun e=>hv.1 (by rw [e,Int.mul_zero])
  refine ⟨b1,b2,h0,?_⟩
  rw [if_pos hb,hv.2]
  have:=castNe (d:=x.den) (by have:=(ratOK_b b1).2.2;omega)
  have:=castNe (d:=y.den) (by have:=(ratOK_b b2).2.2;omega)
  have:=castNe h0
  simp only [qv,Rat.intCast_mul]
  grind
 ·cases h
theorem subQ_ok (h:(subQ x y).2.2=true):vR x=true∧vR y=true∧qv (rq (subQ x y))=qv x - qv y:=by
 unfold subQ subR addR at h ⊢
 split at h
 ·rename_i hb
  obtain ⟨b1,b2⟩:=bothOK_out hb
  rw [ratOK_neg] at b2
  refine ⟨b1,b2,?_⟩
  rw [if_pos hb,(newRat_v h).2]
  have:=castNe (d:=x.den) (by have:=(ratOK_b b1).2.2;omega)
  have:=castNe (d:=y.den) (by have:=(ratOK_b b2).2.2;omega)
  simp only [qv,Rat.intCast_mul,Rat.intCast_add,Rat.intCast_neg]
  grind
 ·cases h
end
theorem addQ_fit {x y:RatD} {a b:Int} (hx:vR x=true) (hy:vR y=true) (hb:1≤b∧b≤1000000000) (ha:-1000000000≤a∧a≤1000000000) (e:qv x+qv y=(a:Rat) / (b:Rat)):(addQ x y).2.2=true:=by
 have hB:bothOK x.num x.den y.num y.den=true:=by simp only [bothOK,Bool.and_eq_true];exact ⟨hx,hy⟩
 unfold addQ addR
 rw [if_pos hB]
 obtain ⟨k1,k2,k3⟩:=ratOK_b hx
 obtain ⟨l1,l2,l3⟩:=ratOK_b hy
 have m1:=mul_bd k1 l2
 have m2:=mul_bd l1 k2
 have m3:=mul_bd k2 l2
 have hd:x.den*y.den ≠ 0:=Int.mul_ne_zero (by omega) (by omega)
 refine newRat_fit hd (by omega) (by omega) hb ha ?_
 have c1:=castNe (d:=x.den) (by omega)
 have c2:=castNe (d:=y.den) (by omega)
 have c3:=castNe (d:=b) (by omega)
 have:(((x.num*y.den+y.num*x.den)*b:Int):Rat)=((a*(x.den*y.den):Int):Rat):=by
  simp only [qv] at e
  simp only [Rat.intCast_mul,Rat.intCast_add]
  grind
 exact_mod_cast this
theorem mulQ_fit {x y:RatD} {a b:Int} (hx:vR x=true) (hy:vR y=true) (hb:1≤b∧b≤1000000000) (ha:-1000000000≤a∧a≤1000000000) (e:qv x*qv y=(a:Rat) / (b:Rat)):(mulQ x y).2.2=true:=by
 have hB:bothOK x.num x.den y.num y.den=true:=by simp only [bothOK,Bool.and_eq_true];exact ⟨hx,hy⟩
 unfold mulQ mulR
 rw [if_pos hB]
 obtain ⟨k1,k2,k3⟩:=ratOK_b hx
 obtain ⟨l1,l2,l3⟩:=ratOK_b hy
 have m1:=mul_bd k1 l1
 have m3:=mul_bd k2 l2
 refine newRat_fit (Int.mul_ne_zero (by omega) (by omega)) (by omega) (by omega) hb ha ?_
 have c1:=castNe (d:=x.den) (by omega)
 have c2:=castNe (d:=y.den) (by omega)
 have c3:=castNe (d:=b) (by omega)
 have:(((x.num*y.num)*b:Int):Rat)=((a*(x.den*y.den):Int):Rat):=by
  simp only [qv] at e
  simp only [Rat.intCast_mul]
  grind
 exact_mod_cast this
theorem qv_neg (x:RatD):qv ⟨-x.num,x.den⟩ = - qv x:=by simp only [qv,Rat.intCast_neg];grind
theorem subQ_fit {x y:RatD} {a b:Int} (hx:vR x=true) (hy:vR y=true) (hb:1≤b∧b≤1000000000) (ha:-1000000000≤a∧a≤1000000000) (e:qv x - qv y=(a:Rat) / (b:Rat)):(subQ x y).2.2=true :=
 addQ_fit (y:=⟨-y.num,y.den⟩) hx (by unfold vR;rw [ratOK_neg];exact hy) hb ha (by rw [qv_neg,← e];grind)
theorem divQ_fit {x y:RatD} {a b:Int} (hx:vR x=true) (hy:vR y=true) (h0:y.num ≠ 0) (hb:1≤b∧b≤1000000000) (ha:-1000000000≤a∧a≤1000000000) (e:qv x / qv y=(a:Rat) / (b:Rat)):(divQ x y).2.2=true:=by
 have hB:bothOK x.num x.den y.num y.den=true:=by simp only [bothOK,Bool.and_eq_true];exact ⟨hx,hy⟩
 unfold divQ divR
 rw [if_pos hB]
 obtain ⟨k1,k2,k3⟩:=ratOK_b hx
 obtain ⟨l1,l2,l3⟩:=ratOK_b hy
 have m1:=mul_bd k1 l2
 have m3:=mul_bd k2 l1
 refine newRat_fit (Int.mul_ne_zero (by omega) h0) (by omega) (by omega) hb ha ?_
 have c1:=castNe (d:=x.den) (by omega)
 have c2:=castNe (d:=y.den) (by omega)
 have c3:=castNe (d:=b) (by omega)
 have c4:=castNe h0
 have:(((x.num*y.den)*b:Int):Rat)=((a*(x.den*y.num):Int):Rat):=by
  simp only [qv] at e
  simp only [Rat.intCast_mul]
  grind
 exact_mod_cast this
theorem qv_lt {x y:RatD} (hx:0<x.den) (hy:0<y.den):qv x<qv y↔x.num*y.den<y.num*x.den:=by
 have c1:=castPos hx
 have c2:=castPos hy
 simp only [qv]
 rw [Rat.div_lt_iff c1]
 have e:(y.num:Rat) / (y.den:Rat)*(x.den:Rat)=((y.num*x.den:Int):Rat) / (y.den:Rat):=by rw [Rat.intCast_mul];grind
 rw [e,Rat.lt_div_iff c2,← Rat.intCast_mul,Rat.intCast_lt_intCast]
end Go.Proofs.Ytalkhmgfnmaaaaa
namespace Go.Proofs.Ytalkhmgfnmaaaaa
set_option linter.unusedSimpArgs false
set_option linter.unusedVariables false
open Go.RowKit
def sig (f:Nat→Rat):Nat→Rat
 | 0=>0
 | n+1=>sig f n+f n
theorem sig_congr {f g:Nat→Rat}:∀ {n:Nat},(∀ i,i<n→f i=g i)→sig f n=sig g n
 | 0,_=>rfl
 | n+1,h=>by simp only [sig];rw [sig_congr fun i hi=>h i (by omega),h n (by omega)]
theorem sig_le {f g:Nat→Rat}:∀ {n:Nat},(∀ i,i<n→f i≤g i)→sig f n≤sig g n
 | 0,_=>by simp only [sig];exact Rat.le_refl
 | n+1,h=>by
  have h1:=sig_le (n:=n) fun i hi=>h i (by omega)
  have h2:=h n (by omega)
  simp only [sig];grind
theorem sig_zero:∀ n:Nat,sig (fun _=>0) n=0
 | 0=>rfl
 | n+1=>by simp only [sig];rw [sig_zero n];grind
theorem sig_add (f g:Nat→Rat):∀ n:Nat,sig (fun i=>f i+g i) n=sig f n+sig g n
 | 0=>by simp only [sig];grind
 | n+1=>by simp only [sig];rw [sig_add f g n];grind
theorem sig_mul (c:Rat) (f:Nat→Rat):∀ n:Nat,sig (fun i=>c*f i) n=c*sig f n
 | 0=>by simp only [sig];grind
 | n+1=>by simp only [sig];rw [sig_mul c f n];grind
theorem sig_comm (f:Nat→Nat→Rat) (n:Nat):∀ m:Nat,sig (fun i=>sig (fun j=>f i j) n) m=sig (fun j=>sig (fun i=>f i j) m) n
 | 0=>by simp only [sig];rw [sig_zero]
 | m+1=>by simp only [sig];rw [sig_comm f n m,← sig_add]
theorem weak_dual {m n:Nat} {A:Nat→Nat→Rat} {b c x y:Nat→Rat} (h1:∀ i,i<m→b i≤sig (fun j=>A i j*x j) n) (h2:∀ j,j<n→sig (fun i=>A i j*y i) m≤c j) (hx:∀ j,j<n→0≤x j) (hy:∀ i,i<m→0≤y i):sig (fun i=>b i*y i) m≤sig (fun j=>c j*x j) n:=by
 have e1:sig (fun i=>b i*y i) m≤sig (fun i=>sig (fun j=>y i*(A i j*x j)) n) m:=sig_le fun i hi=>by
  rw [sig_mul,Rat.mul_comm (y i)]
  exact Rat.mul_le_mul_of_nonneg_right (h1 i hi) (hy i hi)
 have e2:sig (fun j=>sig (fun i=>x j*(A i j*y i)) m) n≤sig (fun j=>c j*x j) n:=sig_le fun j hj=>by
  rw [sig_mul,Rat.mul_comm (x j)]
  exact Rat.mul_le_mul_of_nonneg_right (h2 j hj) (hx j hj)
 have e3:sig (fun i=>sig (fun j=>y i*(A i j*x j)) n) m=sig (fun j=>sig (fun i=>x j*(A i j*y i)) m) n:=by
  rw [sig_comm]
  exact sig_congr fun j _=>sig_congr fun i _=>by grind
 grind
theorem dotTo_sig {a b:List RatD}:∀ {k:Nat} {s:RatD},dotTo a b k=some s→vR s=true∧qv s=sig (fun i=>qv (qx a i)*qv (qx b i)) k
 | 0,s,h=>by
  simp only [dotTo,Option.some.injEq] at h
  subst h
  exact ⟨by decide +kernel,by simp [qv,sig];grind⟩
 | k+1,s,h=>by
  simp only [dotTo] at h
  split at h
  ·cases h
  ·rename_i s0 hs
   split at h
   ·rename_i hc
    simp only [Option.some.injEq] at h
    subst h
    obtain ⟨_,h1⟩:=dotTo_sig hs
    obtain ⟨_,_,h2⟩:=mulQ_ok hc.1
    obtain ⟨_,_,h3⟩:=addQ_ok hc.2
    refine ⟨?_,?_⟩
    ·exact (fitAdd _ _).1 hc.2
    ·simp only [sig]
     rw [h3,h2,h1]
   ·cases h
theorem dotF_sig {a b:List RatD} {s:RatD} (h:dotF a b=some s):a.length=b.length∧vR s=true∧qv s=sig (fun i=>qv (qx a i)*qv (qx b i)) a.length:=by
 unfold dotF at h
 split at h
 ·rename_i hl;exact ⟨hl,dotTo_sig h⟩
 ·cases h
end Go.Proofs.Ytalkhmgfnmaaaaa
