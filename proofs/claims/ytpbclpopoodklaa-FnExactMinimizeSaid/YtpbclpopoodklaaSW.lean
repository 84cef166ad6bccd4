/- Lemmas for the proof of FnExactMaximize, part 41 of 56: no condition of their own. -/
import Derived.Test.YtpbclpopoodklaaSX
import Derived.Test.YtpbclpopoodklaaSV
import Derived.Test.YtpbclpopoodklaaSD
import Derived.Test.YtpbclpopoodklaaSU
import Derived.Test.YtpbclpopoodklaaSK
namespace Go.Proofs.Ytpbclpopoodklaa
set_option linter.unusedSimpArgs false
set_option linter.unusedVariables false
attribute [local go_sem ↓] reduceIte
attribute [local go_sem] Nat.reduceEqDiff Nat.reduceLT Nat.reduceAdd Nat.reduceLeDiff Nat.reduceMul Nat.reduceBEq Nat.reduceSub reduceCtorEq Int.reduceLE Int.reduceNeg Int.reduceLT
open Go.RowKit
theorem sameQ_comm (a b:RatD):sameQ a b=sameQ b a:=by
  unfold sameQ
  rw [show decide (a.num=b.num)=decide (b.num=a.num) from decide_eq_decide.2 ⟨Eq.symm,Eq.symm⟩,show decide (a.den=b.den)=decide (b.den=a.den) from decide_eq_decide.2 ⟨Eq.symm,Eq.symm⟩]
theorem eqQ_comm (a b:List RatD):eqQ a b=eqQ b a:=by
  unfold eqQ
  by_cases h:a.length=b.length
  · rw [decide_eq_true h,decide_eq_true h.symm,h]
    have:(fun i=>sameQ (qx a i) (qx b i))=fun i=>sameQ (qx b i) (qx a i):=funext fun i=>sameQ_comm _ _
    rw [this]
  · rw [decide_eq_false h,decide_eq_false (fun e=>h e.symm)]
    rfl
section
variable (A:List (List RatD)) (B Cc:List RatD) (rows:List (List RatD)) (right:List RatD) (sg:Int)
theorem pickF_none {T d k:Nat} (h:T<d+k) (hd:0<d):pickF T d k=[]:=by
  cases d with
  | zero=>omega
  | succ d=>simp only [pickF];rw [show T - d - k=0 by omega];rfl
theorem chF_pick:∀ (d k:Nat) (ch:List Nat) (outs:List (List RatD)),chF A B Cc rows right sg d k ch outs=(pickF rows.length d k).foldl (fun o c=>leafF A B Cc rows right sg (ch ++ c) o) outs
  | 0,k,ch,outs=>by simp [chF,pickF]
  | d+1,k,ch,outs=>by
    simp only [chF,pickF]
    have key:∀ (m k:Nat) (outs:List (List RatD)),(List.range' k m).foldl (fun o j=>chF A B Cc rows right sg d (j+1) (ch ++ [j]) o) outs=((List.range' k m).flatMap fun i=>(pickF rows.length d (i+1)).map (i :: ·)).foldl (fun o c=>leafF A B Cc rows right sg (ch ++ c) o) outs:=by
      intro m
      induction m with
      | zero=>intro k outs;rfl
      | succ m ih =>
        intro k outs
        rw [List.range'_succ,List.foldl_cons,List.flatMap_cons,List.foldl_append,List.foldl_map,ih,chF_pick d (k+1) (ch ++ [k]) outs]
        congr 1
        congr 1
        funext o c
        rw [List.append_assoc];rfl
    rw [key]
    congr 1
    by_cases h:rows.length - d - k=rows.length - k
    · rw [h]
    · obtain ⟨m,hm⟩:∃ m,rows.length - k=(rows.length - d - k)+m:=⟨rows.length - k - (rows.length - d - k),by omega⟩
      rw [hm,← List.range'_append_1,List.flatMap_append]
      have:(List.range' (k+(rows.length - d - k)) m).flatMap (fun i=>(pickF rows.length d (i+1)).map (i :: ·))=[]:=by
        rw [List.flatMap_eq_nil_iff]
        intro i hi
        rw [List.mem_range'_1] at hi
        rw [pickF_none (by omega) (by omega)];rfl
      rw [this,List.append_nil]
end
theorem rowsF_mx {A:List (List RatD)} {n i:Nat}:mx (rowsF A n) i=if i<A.length then mx A i else if i<A.length+n then unitR n (i - A.length) else []:=by
  by_cases e:i<A.length
  · rw [if_pos e];simp [mx,rowsF,List.getD,List.getElem?_append,e]
  · rw [if_neg e]
    by_cases e2:i<A.length+n
    · have:i - A.length<n:=by omega
      rw [if_pos e2];simp [mx,rowsF,List.getD,List.getElem?_append,e,this]
    · have:¬ i - A.length<n:=by omega
      rw [if_neg e2];simp [mx,rowsF,List.getD,List.getElem?_append,e,this]
theorem rightF_qx {B:List RatD} {n i:Nat} (h:i<B.length+n):qx (rightF B n) i=if i<B.length then qx B i else ⟨0,1⟩:=by
  by_cases e:i<B.length
  · rw [if_pos e];simp [qx,rightF,List.getD,List.getElem?_append,e]
  · have:i - B.length<n:=by omega
    rw [if_neg e];simp [qx,rightF,List.getD,List.getElem?_append,e,List.getElem?_replicate,this]
theorem okm_lkT {o t:Nat}:∀ {tl:List (Nat×AV)},(∀ p∈tl,p.1=t∨OKM o p.2)→∀ t',t' ≠ t→OKM o (lkT tl t')
  | [],_,t',_=>trivial
  | p :: tl,h,t',ht=>by
    simp only [lkT]
    split
    · rename_i e
      rcases h p (List.mem_cons_self ..) with h1 | h1
      · exact absurd (e.trans h1) ht
      · exact h1
    · exact okm_lkT (fun q hq=>h q (List.mem_cons_of_mem _ hq)) t' ht
theorem unit_set {n q:Nat}:(List.replicate n (⟨0,1⟩:RatD)).set q ⟨1,1⟩=unitR n q:=by
  apply List.ext_getElem
  · simp [unitR]
  · intro i h1 h2
    simp only [List.getElem_set,unitR,List.getElem_map,List.getElem_range,List.getElem_replicate]
    by_cases e:q=i
    · simp [e]
    · simp [e]
theorem subS_tm (keep:List Nat) (D:List (Nat×DV)) (s:AS) (t:Nat):(subS keep D s).tm t=match D.lookup t with
  | some x=>.d x
  | none=>if keep.contains t=true then s.tm t else .junk:=rfl
theorem subS_ob (keep:List Nat) (D:List (Nat×DV)) (s:AS) (o:Nat):(subS keep D s).ob o=s.ob o:=rfl
set_option maxHeartbeats 4000000 in
theorem specPointsA (A:List (List RatD)) (B Cc:List RatD) (sg:Int) (hlp:lpV A B Cc=true) (hsg:sg=1∨sg = -1):AFn 26 [.d (lpD A B Cc),.d (.int sg)] [] (fun r os=>r=.d (.sl 1 ((vertF A B Cc sg).map ratsD))∧os=[]):=by
  have hRO:=rows_ok hlp
  obtain ⟨⟨hC1,hC5⟩,⟨hB1,hB5⟩,h3,h4,h5⟩:=lpV_out hlp
  obtain ⟨h6,h7⟩:=matOK_out h3
  refine afn_of (rv:=[.tmp 4]) tyT_ok Try.func26 rfl (by decide +kernel) Try.ntmps26 rfl (by simp) ?_
  have hcl:(Cc.map ratDV).length=Cc.length:=List.length_map ..
  have hbl:(B.map ratDV).length=B.length:=List.length_map ..
  have w0:IntKind.i64.wrap ((B.length:Int)+(Cc.length:Nat))=((B.length+Cc.length:Nat):Int):=by rw [w64 (by omega)];rfl
  repeat' (first | refine awp_seq ?_ | refine stp ?_ | refine blk_o (by decide) ?_ | (apply awp_condB;(focus (simp (disch:=(first | omega | (simp;omega))) only [go_sem,w64,lpD,matD,ratsD,hcl,hbl,w0];try exact rfl));first | with_reducible refine condOf_t ?_ | with_reducible refine condOf_f ?_) | (refine awp_region' tyT_ok ?_;intro K hK) | (refine awp_drawA ?_;intro K hK) | (with_reducible refine hK _ ?_;clear hK K) | (refine stq ?_;simp (disch:=(first | omega | (simp;omega))) only [go_sem,w64,lpD,matD,ratsD,hcl,hbl,w0]) | refine and_side ?_ | fail)
  (first | refine callA (specPickA (B.length+Cc.length) (by omega) Cc.length 0 (Nat.zero_le _) (by omega)) ?_ | refine callD (specPickA (B.length+Cc.length) (by omega) Cc.length 0 (Nat.zero_le _) (by omega)) ?_ | refine callE (specPickA (B.length+Cc.length) (by omega) Cc.length 0 (Nat.zero_le _) (by omega)) ?_ | refine callF (specPickA (B.length+Cc.length) (by omega) Cc.length 0 (Nat.zero_le _) (by omega)) ?_ ?_)
  have hrl:(rowsF A Cc.length).length=B.length+Cc.length:=by simp [rowsF,h6]
  have hV:vertF A B Cc sg=(pickF (B.length+Cc.length) Cc.length 0).foldl (fun o c=>leafF A B Cc (rowsF A Cc.length) (rightF B Cc.length) sg c o) []:=by
    unfold vertF
    rw [chF_pick,hrl];rfl
  have hpm:=pickF_mem (B.length+Cc.length) Cc.length 0
  have hpl:=pickF_len (B.length+Cc.length) Cc.length 0 (Nat.zero_le _)
  have hp10:=pow10 (T:=B.length+Cc.length) (k:=0) (by omega)
  generalize pickF (B.length+Cc.length) Cc.length 0=L at hV hpm hpl ⊢
  have hLl:(L.map pkD).length=L.length:=List.length_map ..
  obtain ⟨F,hF⟩:∃ F:Nat→List (List RatD),F=fun i=>(L.take i).foldl (fun o c=>leafF A B Cc (rowsF A Cc.length) (rightF B Cc.length) sg c o) []:=⟨_,rfl⟩
  have hF0:F 0=[]:=by rw [hF];rfl
  have hFl:∀ i,i≤L.length→(F i).length≤i:=fun i=>by
    induction i with
    | zero=>intro _;rw [hF0];exact Nat.le_refl _
    | succ i ih =>
      intro hi
      have h1:=ih (by omega)
      have e:F (i+1)=leafF A B Cc (rowsF A Cc.length) (rightF B Cc.length) sg (L[i]'(by omega)) (F i):=by rw [hF];simp only;rw [List.take_add_one,List.getElem?_eq_getElem (by omega),Option.toList_some,List.foldl_append];rfl
      rw [e]
      have:=leafF_len A B Cc (rowsF A Cc.length) (rightF B Cc.length) sg (L[i]'(by omega)) (F i)
      omega
  have hFs:∀ i (hi:i<L.length),F (i+1)=leafF A B Cc (rowsF A Cc.length) (rightF B Cc.length) sg L[i] (F i):=fun i hi=>by rw [hF];simp only;rw [List.take_add_one,List.getElem?_eq_getElem hi,Option.toList_some,List.foldl_append];rfl
  have hFm:∀ i,i≤L.length→∀ y∈F i,y.length=Cc.length:=fun i=>by
    induction i with
    | zero=>intro _ y hy;rw [hF0] at hy;cases hy
    | succ i ih =>
      intro hi y hy
      rw [hFs i (by omega)] at hy
      rcases leafF_mem A B Cc (rowsF A Cc.length) (rightF B Cc.length) sg hy with h | h
      · exact ih (by omega) y h
      · rw [h];exact (hpm _ (List.getElem_mem _)).1
  have hFL:vertF A B Cc sg=F L.length:=by rw [hV,hF];simp only;rw [List.take_length]
  clear hV hF
  generalize hn:Cc.length=n at *
  generalize hm:B.length=m at *
  repeat' (first | refine awp_seq ?_ | refine stp ?_ | refine blk_o (by decide) ?_ | (apply awp_condB;(focus (simp (disch:=(first | omega | (simp;omega))) only [go_sem,w64,lpD,hLl];try exact rfl));first | with_reducible refine condOf_t ?_ | with_reducible refine condOf_f ?_) | (refine awp_region' tyT_ok ?_;intro K hK) | (refine awp_drawA ?_;intro K hK) | (with_reducible refine hK _ ?_;clear hK K) | (refine stq ?_;simp (disch:=(first | omega | (simp;omega))) only [go_sem,w64,lpD,hLl]) | refine and_side ?_ | fail)
  refine awp_loopw (fun mm s=>∃ i:Nat,mm=L.length - i∧i≤L.length∧s=mkS [(1,.d (.int sg)),(2,.ptr 2 0),(5,.buf 20 29 1 ((F i).map ratsD)),(6,.d (.int (n:Nat))),(7,.d (.int (m:Nat))),(8,.d (.sl 1 (L.map pkD))),(9,.d (.int (i:Nat)))] [(2,[.d (matD A),.d (ratsD B),.d (ratsD Cc)])]) ?_ ?_
  · refine ⟨_,_,?_,0,rfl,Nat.zero_le _,rfl⟩
    rw [hF0]
    (refine sle_mk ?_ ?_ <;> simp (disch:=(first | omega | (simp;omega))) only [go_sem,w64,lpD,matD,ratsD,List.map_nil] <;> exact leafs)
  · rintro mm s ⟨i,rfl,hi,rfl⟩
    have wi:IntKind.i64.wrap ((i:Int)+1)=((i+1:Nat):Int):=by rw [w64 (by omega)];rfl
    by_cases hiL:i<L.length
    · have zi:decide ((i:Int)<(L.length:Nat))=true:=decide_eq_true (by omega)
      obtain ⟨ch,hch⟩:∃ ch,ch=L[i]:=⟨_,rfl⟩
      have hs:=hFs i hiL
      rw [← hch] at hs
      obtain ⟨hcl2,hcm⟩:=hpm ch (by rw [hch];exact List.getElem_mem hiL)
      have gL:(L.map pkD).getD i (.bool false)=pkD ch:=by rw [hch];simp [List.getD,hiL]
      have hchl:(ch.map fun k:Nat=>DV.int k).length=n:=by rw [List.length_map];exact hcl2
      clear hch
      repeat' (first | refine awp_seq ?_ | refine stp ?_ | refine blk_o (by decide) ?_ | (apply awp_condB;(focus (simp (disch:=(first | omega | (simp;omega))) only [go_sem,w64,lpD,hLl,zi];try exact rfl));first | with_reducible refine condOf_t ?_ | with_reducible refine condOf_f ?_) | (refine awp_region' tyT_ok ?_;intro K hK) | (refine awp_drawA ?_;intro K hK) | (with_reducible refine hK _ ?_;clear hK K) | (refine stq ?_;simp (disch:=(first | omega | (simp;omega))) only [go_sem,w64,lpD,hLl,zi]) | refine and_side ?_ | fail)
      obtain ⟨M,hM⟩:∃ M,M=ch.map (mx (rowsF A n) ·):=⟨_,rfl⟩
      obtain ⟨b,hb⟩:∃ b,b=ch.map (qx (rightF B n) ·):=⟨_,rfl⟩
      have hMl:M.length=n:=by rw [hM,List.length_map];exact hcl2
      have hbl2:b.length=n:=by rw [hb,List.length_map];exact hcl2
      refine awp_loopw (fun mm s=>∃ k:Nat,mm=n - k∧k≤n∧s=mkS [(1,.d (.int sg)),(2,.ptr 2 0),(5,.buf 20 29 1 ((F i).map ratsD)),(6,.d (.int (n:Nat))),(7,.d (.int (m:Nat))),(8,.d (.sl 1 (L.map pkD))),(9,.d (.int (i:Nat))),(10,.buf 38 29 1 ((M.take k).map ratsD)),(11,.buf 39 39 2 ((b.take k).map ratDV)),(12,.d (.int (k:Nat)))] [(2,[.d (matD A),.d (ratsD B),.d (ratsD Cc)])]) ?_ ?_
      · refine ⟨_,_,?_,0,rfl,Nat.zero_le _,rfl⟩
        (refine sle_mk ?_ ?_ <;> simp (disch:=(first | omega | (simp;omega))) only [go_sem,w64,List.take_zero,List.map_nil] <;> exact leafs)
      · rintro mm s ⟨k,rfl,hk,rfl⟩
        have wk:IntKind.i64.wrap ((k:Int)+1)=((k+1:Nat):Int):=by rw [w64 (by omega)];rfl
        by_cases hkn:k<n
        · have zk:decide ((k:Int)<(n:Nat))=true:=decide_eq_true (by omega)
          obtain ⟨q,hq⟩:∃ q,q=ch[k]'(by omega):=⟨_,rfl⟩
          have hqT:q<m+n:=by rw [hq];exact hcm _ (List.getElem_mem _)
          have gk:(ch.map fun k:Nat=>DV.int k).getD k (.bool false)=.int (q:Nat):=by rw [hq];simp [List.getD,show k<ch.length by omega]
          have tk:(M.take (k+1))=M.take k ++ [mx (rowsF A n) q]:=by rw [List.take_add_one,List.getElem?_eq_getElem (by omega),Option.toList_some,hq];simp [hM]
          have tk2:(b.take (k+1))=b.take k ++ [qx (rightF B n) q]:=by rw [List.take_add_one,List.getElem?_eq_getElem (by omega),Option.toList_some,hq];simp [hb]
          by_cases hqm:q<m
          · have zq:decide ((q:Int)<(m:Nat))=true:=decide_eq_true (by omega)
            have gA:(A.map ratsD).getD q (.bool false)=ratsD (mx A q):=getDm (by omega)
            have gB:(B.map ratDV).getD q (.bool false)=ratDV (qx B q):=getDq (by omega)
            repeat' (first | refine awp_seq ?_ | refine stp ?_ | refine blk_o (by decide) ?_ | (apply awp_condB;(focus (simp (disch:=(first | omega | (simp;omega))) only [go_sem,w64,zk,gL,gk,zq,pkD,hchl,matD,ratsD,gA,gB,ratDV];try exact rfl));first | with_reducible refine condOf_t ?_ | with_reducible refine condOf_f ?_) | (refine awp_region' tyT_ok ?_;intro K hK) | (refine awp_drawA ?_;intro K hK) | (with_reducible refine hK _ ?_;clear hK K) | (refine stq ?_;simp (disch:=(first | omega | (simp;omega))) only [go_sem,w64,zk,gL,gk,zq,pkD,hchl,matD,ratsD,gA,gB,ratDV]) | refine and_side ?_ | fail)
            refine ⟨n - (k+1),_,by omega,?_,k+1,rfl,by omega,rfl⟩
            rw [tk,tk2,rowsF_mx,if_pos (by omega),rightF_qx (by omega),if_pos (by omega)]
            (refine sle_mk ?_ ?_ <;> simp (disch:=(first | omega | (simp;omega))) only [go_sem,w64,List.map_append,List.map_cons,List.map_nil,ratDV,ratsD,matD] <;> exact leafs)
          · have zq:decide ((q:Int)<(m:Nat))=false:=decide_eq_false (by omega)
            repeat' (first | refine awp_seq ?_ | refine stp ?_ | refine blk_o (by decide) ?_ | (apply awp_condB;(focus (simp (disch:=(first | omega | (simp;omega))) only [go_sem,w64,zk];try exact rfl));first | with_reducible refine condOf_t ?_ | with_reducible refine condOf_f ?_) | (with_reducible refine hK _ ?_;clear hK K) | (refine stq ?_;simp (disch:=(first | omega | (simp;omega))) only [go_sem,w64,zk]) | refine and_side ?_ | fail)
            ((refine awp_region' tyT_ok ?_;intro K hK);repeat' (first | (with_reducible refine hK _ ?_;clear hK K) | (refine stq ?_;simp (disch:=(first | omega | (simp;omega))) only [go_sem,w64,zk]) | refine and_side ?_ | fail))
            repeat' (first | refine awp_seq ?_ | refine stp ?_ | refine blk_o (by decide) ?_ | (apply awp_condB;(focus (simp (disch:=(first | omega | (simp;omega))) only [go_sem,w64,zk];try exact rfl));first | with_reducible refine condOf_t ?_ | with_reducible refine condOf_f ?_) | (with_reducible refine hK _ ?_;clear hK K) | (refine stq ?_;simp (disch:=(first | omega | (simp;omega))) only [go_sem,w64,zk]) | refine and_side ?_ | fail)
            ((refine awp_region' tyT_ok ?_;intro K hK);repeat' (first | (with_reducible refine hK _ ?_;clear hK K) | (refine stq ?_;simp (disch:=(first | omega | (simp;omega))) only [go_sem,w64,gL,gk,pkD,hchl]) | refine and_side ?_ | fail))
            repeat' (first | refine awp_seq ?_ | refine stp ?_ | refine blk_o (by decide) ?_ | (apply awp_condB;(focus (simp (disch:=(first | omega | (simp;omega))) only [go_sem,w64];try exact rfl));first | with_reducible refine condOf_t ?_ | with_reducible refine condOf_f ?_) | (with_reducible refine hK _ ?_;clear hK K) | (refine stq ?_;simp (disch:=(first | omega | (simp;omega))) only [go_sem,w64]) | refine and_side ?_ | fail)
            ((refine awp_region' tyT_ok ?_;intro K hK);repeat' (first | (with_reducible refine hK _ ?_;clear hK K) | (refine stq ?_;simp (disch:=(first | omega | (simp;omega))) only [go_sem,w64,zq]) | refine and_side ?_ | fail))
            repeat' (first | refine stp ?_ | refine blk_o (by decide) ?_ | (apply awp_condB;(focus (simp (disch:=(first | omega | (simp;omega))) only [go_sem,w64,zq];try exact rfl));first | with_reducible refine condOf_t ?_ | with_reducible refine condOf_f ?_) | (with_reducible refine hK _ ?_;clear hK K) | (refine stq ?_;simp (disch:=(first | omega | (simp;omega))) only [go_sem,w64,zq]) | refine and_side ?_ | fail)
            refine awp_sub3 [1,2,5,8,9,10,11,12] (fun vs=>mkS [(1,.cst (vs 1)),(2,.cst (vs 2)),(5,.cst (vs 5)),(6,.d (.int (n:Nat))),(7,.d (.int (m:Nat))),(8,.cst (vs 8)),(9,.cst (vs 9)),(10,.cst (vs 10)),(11,.cst (vs 11)),(12,.cst (vs 12)),(13,.d (.int (q:Nat)))] []) (fun vs t=>lkT_sub _ ?_ t) (fun vs o=>rfl) ?_
            · intro p hp
              simp only [List.mem_cons,List.not_mem_nil,or_false] at hp
              rcases hp with rfl | rfl | rfl | rfl | rfl | rfl | rfl | rfl | rfl | rfl | rfl <;> first | exact .inl rfl | (right;simp (disch:=(first | omega | (simp;omega))) only [go_sem,w64];exact ALe.refl _)
            intro vs
            repeat' (first | refine awp_seq ?_ | refine stp ?_ | refine blk_o (by decide) ?_ | (apply awp_condB;(focus (simp (disch:=(first | omega | (simp;omega))) only [go_sem,w64];try exact rfl));first | with_reducible refine condOf_t ?_ | with_reducible refine condOf_f ?_) | (with_reducible refine hK _ ?_;clear hK K) | (refine stq ?_;simp (disch:=(first | omega | (simp;omega))) only [go_sem,w64]) | refine and_side ?_ | fail)
            ((refine awp_region' tyT_ok ?_;intro K hK);repeat' (first | (with_reducible refine hK _ ?_;clear hK K) | (refine stq ?_;simp (disch:=(first | omega | (simp;omega))) only [go_sem,w64]) | refine and_side ?_ | fail))
            repeat' (first | refine awp_seq ?_ | refine stp ?_ | refine blk_o (by decide) ?_ | (apply awp_condB;(focus (simp (disch:=(first | omega | (simp;omega))) only [go_sem,w64];try exact rfl));first | with_reducible refine condOf_t ?_ | with_reducible refine condOf_f ?_) | (with_reducible refine hK _ ?_;clear hK K) | (refine stq ?_;simp (disch:=(first | omega | (simp;omega))) only [go_sem,w64]) | refine and_side ?_ | fail)
            ((refine awp_region' tyT_ok ?_;intro K hK);repeat' (first | (with_reducible refine hK _ ?_;clear hK K) | (refine stq ?_;simp (disch:=(first | omega | (simp;omega))) only [go_sem,w64]) | refine and_side ?_ | fail))
            repeat' (first | refine awp_seq ?_ | refine stp ?_ | refine blk_o (by decide) ?_ | (apply awp_condB;(focus (simp (disch:=(first | omega | (simp;omega))) only [go_sem,w64];try exact rfl));first | with_reducible refine condOf_t ?_ | with_reducible refine condOf_f ?_) | (with_reducible refine hK _ ?_;clear hK K) | (refine stq ?_;simp (disch:=(first | omega | (simp;omega))) only [go_sem,w64]) | refine and_side ?_ | fail)
            refine awp_loopw (fun mm s=>∃ v:Nat,mm=n - v∧v≤n∧s=mkS [(1,.cst (vs 1)),(2,.cst (vs 2)),(5,.cst (vs 5)),(6,.d (.int (n:Nat))),(7,.d (.int (m:Nat))),(8,.cst (vs 8)),(9,.cst (vs 9)),(10,.cst (vs 10)),(11,.cst (vs 11)),(12,.cst (vs 12)),(13,.d (.int (q:Nat))),(14,.buf 71 39 2 ((List.replicate v (⟨0,1⟩:RatD)).map ratDV)),(15,.d (.int (v:Nat)))] []) ?_ ?_
            · refine ⟨_,_,?_,0,rfl,Nat.zero_le _,rfl⟩
              (refine sle_mk ?_ ?_ <;> simp (disch:=(first | omega | (simp;omega))) only [go_sem,w64,List.replicate_zero,List.map_nil] <;> exact leafs)
            · rintro mm s ⟨v,rfl,hv,rfl⟩
              have wv:IntKind.i64.wrap ((v:Int)+1)=((v+1:Nat):Int):=by rw [w64 (by omega)];rfl
              by_cases hvn:v<n
              · have zv:decide ((v:Int)<(n:Nat))=true:=decide_eq_true (by omega)
                repeat' (first | refine awp_seq ?_ | refine stp ?_ | refine blk_o (by decide) ?_ | (apply awp_condB;(focus (simp (disch:=(first | omega | (simp;omega))) only [go_sem,w64,zv];try exact rfl));first | with_reducible refine condOf_t ?_ | with_reducible refine condOf_f ?_) | (refine awp_region' tyT_ok ?_;intro K hK) | (refine awp_drawA ?_;intro K hK) | (with_reducible refine hK _ ?_;clear hK K) | (refine stq ?_;simp (disch:=(first | omega | (simp;omega))) only [go_sem,w64,zv]) | refine and_side ?_ | fail)
                refine ⟨n - (v+1),_,by omega,?_,v+1,rfl,by omega,rfl⟩
                rw [List.replicate_succ']
                (refine sle_mk ?_ ?_ <;> simp (disch:=(first | omega | (simp;omega))) only [go_sem,w64,List.map_append,List.map_cons,List.map_nil,ratDV] <;> exact leafs)
              · obtain rfl:n=v:=by omega
                have zv:decide ((n:Int)<(n:Nat))=false:=decide_eq_false (by omega)
                repeat' (first | refine awp_seq ?_ | refine stp ?_ | refine blk_o (by decide) ?_ | (apply awp_condB;(focus (simp (disch:=(first | omega | (simp;omega))) only [go_sem,w64];try exact rfl));first | with_reducible refine condOf_t ?_ | with_reducible refine condOf_f ?_) | (with_reducible refine hK _ ?_;clear hK K) | (refine stq ?_;simp (disch:=(first | omega | (simp;omega))) only [go_sem,w64]) | refine and_side ?_ | fail)
                ((refine awp_region' tyT_ok ?_;intro K hK);repeat' (first | (with_reducible refine hK _ ?_;clear hK K) | (refine stq ?_;simp (disch:=(first | omega | (simp;omega))) only [go_sem,w64,zv]) | refine and_side ?_ | fail))
                repeat' (first | refine awp_seq ?_ | refine stp ?_ | refine blk_o (by decide) ?_ | (apply awp_condB;(focus (simp (disch:=(first | omega | (simp;omega))) only [go_sem,w64,zv];try exact rfl));first | with_reducible refine condOf_t ?_ | with_reducible refine condOf_f ?_) | (with_reducible refine hK _ ?_;clear hK K) | (refine stq ?_;simp (disch:=(first | omega | (simp;omega))) only [go_sem,w64,zv]) | refine and_side ?_ | fail)
                refine awp_weak (s':=mkS [(1,.cst (vs 1)),(2,.cst (vs 2)),(5,.cst (vs 5)),(6,.d (.int (n:Nat))),(7,.d (.int (m:Nat))),(8,.cst (vs 8)),(9,.cst (vs 9)),(10,.cst (vs 10)),(11,.cst (vs 11)),(12,.cst (vs 12)),(13,.d (.int (q:Nat))),(14,.buf 71 39 2 ((List.replicate n (⟨0,1⟩:RatD)).map ratDV))] []) (by exact sleA) ?_
                have hrep:(List.replicate n (⟨0,1⟩:RatD)).length=n:=List.length_replicate ..
                have hel:=rats_el (List.replicate n (⟨0,1⟩:RatD))
                refine awp_thawM 14 71 60 2 (T:=39) (l:=(List.replicate n (⟨0,1⟩:RatD)).map ratDV) (cells:=cQ (List.replicate n (⟨0,1⟩:RatD))) (by decide) rfl (fun e=>(by have:=congrArg List.length e;rw [List.length_map,hrep] at this;simp at this;omega)) (by decide) hel.1 rfl (by decide) (fun X G a w us _ _ hus G' _=>ints_cvs hel.2 hus) (okm_lkT fun p hp=>?_) (fun q' l' e=>(by cases e)) ?_
                · simp only [List.mem_cons,List.not_mem_nil,or_false] at hp
                  rcases hp with rfl | rfl | rfl | rfl | rfl | rfl | rfl | rfl | rfl | rfl | rfl | rfl <;> first | exact .inl rfl | exact .inr trivial | exact .inr rfl
                rw [List.length_map,hrep]
                have wq:IntKind.i64.wrap ((q:Int) - (m:Nat))=((q - m:Nat):Int):=by rw [w64 (by omega)];omega
                have hcq:=cQ_len (List.replicate n (⟨0,1⟩:RatD))
                rw [hrep] at hcq
                have hst:=cQ_st (List.replicate n (⟨0,1⟩:RatD)) (q - m) 1 1 (by rw [hrep];omega)
                rw [unit_set] at hst
                ((refine awp_region' tyT_ok ?_;intro K hK);repeat' (first | (with_reducible refine hK _ ?_;clear hK K) | (refine stq ?_;simp (disch:=(first | omega | (simp;omega))) only [go_sem,w64,wq,hcq,hst]) | refine and_side ?_ | fail))
                refine then_n ?_
                intro X' G' a' w' hr
                obtain ⟨G9,hr2⟩:Rel X' (mkS [(1,.cst (vs 1)),(2,.cst (vs 2)),(5,.cst (vs 5)),(6,.d (.int (n:Nat))),(7,.d (.int (m:Nat))),(8,.cst (vs 8)),(9,.cst (vs 9)),(10,.cst (vs 10)),(11,.cst (vs 11)),(12,.cst (vs 12)),(13,.d (.int (q:Nat))),(14,.arr 60 2 n)] [(60,cQ (unitR n (q - m)))]) a' w':=Rel.weak (by exact sleA) ⟨G',hr⟩
                clear hr
                refine ⟨_,_,hr2.frz (o:=60) (k:=2) (es:=(unitR n (q - m)).map ratDV) rfl (rats_el _).1 (by decide),?_,[(6,.int (n:Nat)),(7,.int (m:Nat)),(13,.int (q:Nat)),(14,ratsD (unitR n (q - m)))],?_,?_⟩
                · intro t ht
                  simp only [List.mem_cons,List.not_mem_nil,or_false] at ht
                  rcases ht with rfl | rfl | rfl | rfl | rfl | rfl | rfl | rfl <;> rfl
                · intro p hp
                  have hul:((unitR n (q - m)).map ratDV).length=n:=by simp [unitR]
                  simp only [List.mem_cons,List.not_mem_nil,or_false] at hp
                  rcases hp with rfl | rfl | rfl | rfl
                  · rfl
                  · rfl
                  · rfl
                  · show frz 60 2 _ (.arr 60 2 n)=_
                    simp only [frz]
                    rw [if_pos trivial,if_pos ⟨trivial,hul.symm⟩]
                · refine awp_weak (s':=mkS [(1,.d (.int sg)),(2,.ptr 2 0),(5,.buf 20 29 1 ((F i).map ratsD)),(6,.d (.int (n:Nat))),(7,.d (.int (m:Nat))),(8,.d (.sl 1 (L.map pkD))),(9,.d (.int (i:Nat))),(10,.buf 38 29 1 ((M.take k).map ratsD)),(11,.buf 39 39 2 ((b.take k).map ratDV)),(12,.d (.int (k:Nat))),(14,.d (ratsD (unitR n (q - m))))] [(2,[.d (matD A),.d (ratsD B),.d (ratsD Cc)])]) (by (refine sle_mk ?_ ?_ <;> simp (disch:=(first | omega | (simp;omega))) only [go_sem,w64,subS_tm,subS_ob,List.lookup_cons,List.lookup_nil,List.contains_cons,List.contains_nil,Bool.or_false,Bool.false_or,Bool.or_true,Bool.true_or,ratsD,matD] <;> exact leafs)) ?_
                  repeat' (first | refine awp_seq ?_ | refine stp ?_ | refine blk_o (by decide) ?_ | (apply awp_condB;(focus (simp (disch:=(first | omega | (simp;omega))) only [go_sem,w64,ratsD];try exact rfl));first | with_reducible refine condOf_t ?_ | with_reducible refine condOf_f ?_) | (refine awp_region' tyT_ok ?_;intro K hK) | (refine awp_drawA ?_;intro K hK) | (with_reducible refine hK _ ?_;clear hK K) | (refine stq ?_;simp (disch:=(first | omega | (simp;omega))) only [go_sem,w64,ratsD]) | refine and_side ?_ | fail)
                  refine ⟨n - (k+1),_,by omega,?_,k+1,rfl,by omega,rfl⟩
                  rw [tk,tk2,rowsF_mx,if_neg (by omega),if_pos (by omega),rightF_qx (by omega),if_neg (by omega),h6]
                  (refine sle_mk ?_ ?_ <;> simp (disch:=(first | omega | (simp;omega))) only [go_sem,w64,List.map_append,List.map_cons,List.map_nil,ratDV,ratsD,matD] <;> exact leafs)
        · obtain rfl:n=k:=by omega
          have zk:decide ((n:Int)<(n:Nat))=false:=decide_eq_false (by omega)
          rw [List.take_of_length_le (by omega),List.take_of_length_le (by omega)]
          repeat' (first | refine awp_seq ?_ | refine stp ?_ | refine blk_o (by decide) ?_ | (apply awp_condB;(focus (simp (disch:=(first | omega | (simp;omega))) only [go_sem,w64,zk];try exact rfl));first | with_reducible refine condOf_t ?_ | with_reducible refine condOf_f ?_) | (refine awp_region' tyT_ok ?_;intro K hK) | (refine awp_drawA ?_;intro K hK) | (with_reducible refine hK _ ?_;clear hK K) | (refine stq ?_;simp (disch:=(first | omega | (simp;omega))) only [go_sem,w64,zk]) | refine and_side ?_ | fail)
          (first | refine callA (specSolveA M b n (by rw [hM,hb];exact hRO.sys hcl2 (fun k hk=>by rw [hrl];exact hcm k hk))) ?_ | refine callD (specSolveA M b n (by rw [hM,hb];exact hRO.sys hcl2 (fun k hk=>by rw [hrl];exact hcm k hk))) ?_ | refine callE (specSolveA M b n (by rw [hM,hb];exact hRO.sys hcl2 (fun k hk=>by rw [hrl];exact hcm k hk))) ?_ | refine callF (specSolveA M b n (by rw [hM,hb];exact hRO.sys hcl2 (fun k hk=>by rw [hrl];exact hcm k hk))) ?_ ?_)
          have hs2:F (i+1)=match solF M b with
            | none=>F i
            | some x=>if feasF A B Cc x sg=true then (if (F i).any (fun y=>eqQ x y)=true then F i else F i ++ [x]) else F i:=by rw [hs,hM,hb];rfl
          have hFli:=hFl i hi
          cases hsol:solF M b with
          | none =>
            rw [hsol] at hs2
            replace hs2:F (i+1)=F i:=hs2
            repeat' (first | refine awp_seq ?_ | refine stp ?_ | refine blk_o (by decide) ?_ | (apply awp_condB;(focus (simp (disch:=(first | omega | (simp;omega))) only [go_sem,w64,ansL,ratsD];try exact rfl));first | with_reducible refine condOf_t ?_ | with_reducible refine condOf_f ?_) | (refine awp_region' tyT_ok ?_;intro K hK) | (refine awp_drawA ?_;intro K hK) | (with_reducible refine hK _ ?_;clear hK K) | (refine stq ?_;simp (disch:=(first | omega | (simp;omega))) only [go_sem,w64,ansL,ratsD]) | refine and_side ?_ | fail)
            refine ⟨L.length - (i+1),_,by omega,?_,i+1,rfl,by omega,rfl⟩
            rw [hs2]
            exact sleA
          | some x =>
            have hxl:x.length=n:=by
              unfold solF at hsol
              split at hsol
              · cases hsol
              · rw [outTo_len hsol];exact hbl2
            rw [hsol] at hs2
            replace hs2:F (i+1)=if feasF A B Cc x sg=true then (if (F i).any (fun y=>eqQ x y)=true then F i else F i ++ [x]) else F i:=hs2
            repeat' (first | refine awp_seq ?_ | refine stp ?_ | refine blk_o (by decide) ?_ | (apply awp_condB;(focus (simp (disch:=(first | omega | (simp;omega))) only [go_sem,w64,ansL];try exact rfl));first | with_reducible refine condOf_t ?_ | with_reducible refine condOf_f ?_) | (refine awp_region' tyT_ok ?_;intro K hK) | (refine awp_drawA ?_;intro K hK) | (with_reducible refine hK _ ?_;clear hK K) | (refine stq ?_;simp (disch:=(first | omega | (simp;omega))) only [go_sem,w64,ansL]) | refine and_side ?_ | fail)
            (first | refine callA (specSideA A B Cc x sg (by omega) (fun i h=>by rw [(h7 i h).1];omega) (by omega) (by omega) (by omega) hsg) ?_ | refine callD (specSideA A B Cc x sg (by omega) (fun i h=>by rw [(h7 i h).1];omega) (by omega) (by omega) (by omega) hsg) ?_ | refine callE (specSideA A B Cc x sg (by omega) (fun i h=>by rw [(h7 i h).1];omega) (by omega) (by omega) (by omega) hsg) ?_ | refine callF (specSideA A B Cc x sg (by omega) (fun i h=>by rw [(h7 i h).1];omega) (by omega) (by omega) (by omega) hsg) ?_ ?_)
            cases hf:feasF A B Cc x sg with
            | false =>
              rw [hf,if_neg (by decide)] at hs2
              repeat' (first | refine awp_seq ?_ | refine stp ?_ | refine blk_o (by decide) ?_ | (apply awp_condB;(focus (simp (disch:=(first | omega | (simp;omega))) only [go_sem,w64,hf];try exact rfl));first | with_reducible refine condOf_t ?_ | with_reducible refine condOf_f ?_) | (refine awp_region' tyT_ok ?_;intro K hK) | (refine awp_drawA ?_;intro K hK) | (with_reducible refine hK _ ?_;clear hK K) | (refine stq ?_;simp (disch:=(first | omega | (simp;omega))) only [go_sem,w64,hf]) | refine and_side ?_ | fail)
              refine ⟨L.length - (i+1),_,by omega,?_,i+1,rfl,by omega,rfl⟩
              rw [hs2]
              exact sleA
            | true =>
              rw [hf,if_pos rfl] at hs2
              repeat' (first | refine awp_seq ?_ | refine stp ?_ | refine blk_o (by decide) ?_ | (apply awp_condB;(focus (simp (disch:=(first | omega | (simp;omega))) only [go_sem,w64,hf];try exact rfl));first | with_reducible refine condOf_t ?_ | with_reducible refine condOf_f ?_) | (refine awp_region' tyT_ok ?_;intro K hK) | (refine awp_drawA ?_;intro K hK) | (with_reducible refine hK _ ?_;clear hK K) | (refine stq ?_;simp (disch:=(first | omega | (simp;omega))) only [go_sem,w64,hf]) | refine and_side ?_ | fail)
              refine awp_loopw (fun mm s=>∃ k:Nat,mm=(F i).length - k∧k≤(F i).length∧s=mkS [(1,.d (.int sg)),(2,.ptr 2 0),(5,.buf 20 29 1 ((F i).map ratsD)),(6,.d (.int (n:Nat))),(7,.d (.int (m:Nat))),(8,.d (.sl 1 (L.map pkD))),(9,.d (.int (i:Nat))),(16,.d (ratsD x)),(18,.d (.bool (((F i).take k).any fun y=>eqQ x y))),(19,.d (.int (k:Nat)))] [(2,[.d (matD A),.d (ratsD B),.d (ratsD Cc)])]) ?_ ?_
              · refine ⟨_,_,?_,0,rfl,Nat.zero_le _,rfl⟩
                (refine sle_mk ?_ ?_ <;> simp (disch:=(first | omega | (simp;omega))) only [go_sem,w64,List.take_zero,List.any_nil] <;> exact leafs)
              · rintro mm s ⟨k,rfl,hk,rfl⟩
                obtain ⟨kb,hkb⟩:∃ kb,kb=(((F i).take k).any fun y=>eqQ x y):=⟨_,rfl⟩
                rw [← hkb]
                have hFil:((F i).map ratsD).length=(F i).length:=List.length_map ..
                by_cases hkn2:k<(F i).length
                · have zk2:decide ((k:Int)<((F i).length:Nat))=true:=decide_eq_true (by omega)
                  have wk2:IntKind.i64.wrap ((k:Int)+1)=((k+1:Nat):Int):=by rw [w64 (by omega)];rfl
                  have gF:((F i).map ratsD).getD k (.bool false)=ratsD (mx (F i) k):=getDm hkn2
                  have hmk:mx (F i) k=(F i)[k]:=by simp [mx,List.getD,hkn2]
                  have hml:(mx (F i) k).length=n:=hFm i hi _ (by rw [hmk];exact List.getElem_mem _)
                  have tk3:(((F i).take (k+1)).any fun y=>eqQ x y)=(kb || eqQ (mx (F i) k) x):=by
                    rw [List.take_add_one,List.getElem?_eq_getElem hkn2,Option.toList_some,List.any_append,← hkb,hmk,eqQ_comm (F i)[k] x]
                    simp only [List.any_cons,List.any_nil,Bool.or_false]
                  cases kb with
                  | true =>
                    repeat' (first | refine awp_seq ?_ | refine stp ?_ | refine blk_o (by decide) ?_ | (apply awp_condB;(focus (simp (disch:=(first | omega | (simp;omega))) only [go_sem,w64,hFil,zk2];try exact rfl));first | with_reducible refine condOf_t ?_ | with_reducible refine condOf_f ?_) | (refine awp_region' tyT_ok ?_;intro K hK) | (refine awp_drawA ?_;intro K hK) | (with_reducible refine hK _ ?_;clear hK K) | (refine stq ?_;simp (disch:=(first | omega | (simp;omega))) only [go_sem,w64,hFil,zk2]) | refine and_side ?_ | fail)
                    refine ⟨(F i).length - (k+1),_,by omega,?_,k+1,rfl,by omega,rfl⟩
                    rw [tk3,Bool.true_or]
                    exact sleA
                  | false =>
                    repeat' (first | refine awp_seq ?_ | refine stp ?_ | refine blk_o (by decide) ?_ | (apply awp_condB;(focus (simp (disch:=(first | omega | (simp;omega))) only [go_sem,w64,hFil,zk2,gF];try exact rfl));first | with_reducible refine condOf_t ?_ | with_reducible refine condOf_f ?_) | (refine awp_region' tyT_ok ?_;intro K hK) | (refine awp_drawA ?_;intro K hK) | (with_reducible refine hK _ ?_;clear hK K) | (refine stq ?_;simp (disch:=(first | omega | (simp;omega))) only [go_sem,w64,hFil,zk2,gF]) | refine and_side ?_ | fail)
                    (first | refine callA (specEqA (mx (F i) k) x (by omega) (by omega)) ?_ | refine callD (specEqA (mx (F i) k) x (by omega) (by omega)) ?_ | refine callE (specEqA (mx (F i) k) x (by omega) (by omega)) ?_ | refine callF (specEqA (mx (F i) k) x (by omega) (by omega)) ?_ ?_)
                    repeat' (first | refine awp_seq ?_ | refine stp ?_ | refine blk_o (by decide) ?_ | (apply awp_condB;(focus (simp (disch:=(first | omega | (simp;omega))) only [go_sem,w64];try exact rfl));first | with_reducible refine condOf_t ?_ | with_reducible refine condOf_f ?_) | (refine awp_region' tyT_ok ?_;intro K hK) | (refine awp_drawA ?_;intro K hK) | (with_reducible refine hK _ ?_;clear hK K) | (refine stq ?_;simp (disch:=(first | omega | (simp;omega))) only [go_sem,w64]) | refine and_side ?_ | fail)
                    refine ⟨(F i).length - (k+1),_,by omega,?_,k+1,rfl,by omega,rfl⟩
                    rw [tk3,Bool.false_or]
                    exact sleA
                · obtain rfl:k=(F i).length:=by omega
                  have zk2:decide (((F i).length:Int)<((F i).length:Nat))=false:=decide_eq_false (by omega)
                  rw [List.take_of_length_le (Nat.le_refl _)] at hkb
                  rw [← hkb] at hs2
                  cases kb with
                  | true =>
                    rw [if_pos rfl] at hs2
                    repeat' (first | refine awp_seq ?_ | refine stp ?_ | refine blk_o (by decide) ?_ | (apply awp_condB;(focus (simp (disch:=(first | omega | (simp;omega))) only [go_sem,w64,hFil,zk2];try exact rfl));first | with_reducible refine condOf_t ?_ | with_reducible refine condOf_f ?_) | (refine awp_region' tyT_ok ?_;intro K hK) | (refine awp_drawA ?_;intro K hK) | (with_reducible refine hK _ ?_;clear hK K) | (refine stq ?_;simp (disch:=(first | omega | (simp;omega))) only [go_sem,w64,hFil,zk2]) | refine and_side ?_ | fail)
                    refine ⟨L.length - (i+1),_,by omega,?_,i+1,rfl,by omega,rfl⟩
                    rw [hs2]
                    exact sleA
                  | false =>
                    rw [if_neg (by decide)] at hs2
                    repeat' (first | refine awp_seq ?_ | refine stp ?_ | refine blk_o (by decide) ?_ | (apply awp_condB;(focus (simp (disch:=(first | omega | (simp;omega))) only [go_sem,w64,hFil,zk2];try exact rfl));first | with_reducible refine condOf_t ?_ | with_reducible refine condOf_f ?_) | (refine awp_region' tyT_ok ?_;intro K hK) | (refine awp_drawA ?_;intro K hK) | (with_reducible refine hK _ ?_;clear hK K) | (refine stq ?_;simp (disch:=(first | omega | (simp;omega))) only [go_sem,w64,hFil,zk2]) | refine and_side ?_ | fail)
                    refine ⟨L.length - (i+1),_,by omega,?_,i+1,rfl,by omega,rfl⟩
                    rw [hs2]
                    (refine sle_mk ?_ ?_ <;> simp (disch:=(first | omega | (simp;omega))) only [go_sem,w64,List.map_append,List.map_cons,List.map_nil,ratsD] <;> exact leafs)
    · obtain rfl:i=L.length:=by omega
      have zi:decide ((L.length:Int)<(L.length:Nat))=false:=decide_eq_false (by omega)
      rw [hFL]
      repeat' (first | refine awp_seq ?_ | refine stp ?_ | refine blk_o (by decide) ?_ | (apply awp_condB;(focus (simp (disch:=(first | omega | (simp;omega))) only [go_sem,w64,hLl,zi];try exact rfl));first | with_reducible refine condOf_t ?_ | with_reducible refine condOf_f ?_) | (refine awp_region' tyT_ok ?_;intro K hK) | (refine awp_drawA ?_;intro K hK) | (with_reducible refine hK _ ?_;clear hK K) | (refine stq ?_;simp (disch:=(first | omega | (simp;omega))) only [go_sem,w64,hLl,zi]) | refine and_side ?_ | fail)
      (refine endA (r:=.d (.sl 1 ((F L.length).map ratsD))) ?_)
      exact ⟨rfl,rfl⟩
end Go.Proofs.Ytpbclpopoodklaa
