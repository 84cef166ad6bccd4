/- Lemmas for the proof of FnExactMaximize, part 26 of 56: no condition of their own. -/
import Derived.Test.YtpbclpopoodklaaSB
namespace Go.Proofs.Ytpbclpopoodklaa
set_option linter.unusedSimpArgs false
set_option linter.unusedVariables false
attribute [local go_sem ↓] reduceIte
attribute [local go_sem] Nat.reduceEqDiff Nat.reduceLT Nat.reduceAdd Nat.reduceLeDiff Nat.reduceMul Nat.reduceBEq Nat.reduceSub reduceCtorEq Int.reduceLE Int.reduceNeg Int.reduceLT
open Go.RowKit
def cQ (l:List RatD):List AV:=(flatD (l.map ratDV)).map .d
theorem cQ_cons (x:RatD) (l:List RatD):cQ (x :: l)=.d (.int x.num) :: .d (.int x.den) :: cQ l:=by simp [cQ,flatD,ratDV,dcells]
theorem cQ_len (l:List RatD):(cQ l).length=l.length*2:=by
  induction l with
  | nil=>rfl
  | cons x l ih=>rw [cQ_cons];simp only [List.length_cons,ih];omega
theorem cQ_ld:∀ (l:List RatD) (k:Nat),k<l.length→((cQ l).drop (k*2)).take 2=[.d (.int (qx l k).num),.d (.int (qx l k).den)]
  | [],k,h=>by simp at h
  | x :: l,0,h=>by rw [cQ_cons];simp [qx]
  | x :: l,k+1,h=>by
    rw [cQ_cons,show (k+1)*2=k*2+1+1 by omega,List.drop_succ_cons,List.drop_succ_cons,cQ_ld l k (by simpa using h)]
    simp [qx]
theorem cQ_st:∀ (l:List RatD) (k:Nat) (x y:Int),k<l.length→List.take (k*2) (cQ l) ++ .d (.int x) :: .d (.int y) :: List.drop (k*2+2) (cQ l)=cQ (l.set k ⟨x,y⟩)
  | [],k,x,y,h=>by simp at h
  | z :: l,0,x,y,h=>by simp [cQ_cons]
  | z :: l,k+1,x,y,h=>by
    have ih:=cQ_st l k x y (by simpa using h)
    rw [cQ_cons,List.set_cons_succ,cQ_cons,show (k+1)*2=k*2+1+1 by omega,show k*2+1+1+2=k*2+2+1+1 by omega]
    simp only [List.take_succ_cons,List.drop_succ_cons,List.cons_append,ih]
theorem cQ_num (l:List RatD) (k:Nat) (h:k<l.length) (d:AV):(cQ l).getD (k*2) d=.d (.int (qx l k).num):=by
  have h1:=cQ_ld l k h
  have h2:k*2<(cQ l).length:=by rw [cQ_len];omega
  rw [List.drop_eq_getElem_cons h2] at h1
  simp only [List.take_succ_cons,List.cons.injEq] at h1
  simp [List.getD,h2,h1.1]
def elTo (f:RatD) (row piv:List RatD) (p:Nat):Nat→Option (List RatD)
  | 0=>some row
  | j+1=>match elTo f row piv p j with
    | none=>none
    | some r=>if (mulQ f (qx piv (p+j))).2.2=true∧(subQ (qx row (p+j)) (rq (mulQ f (qx piv (p+j))))).2.2=true then some (r.set (p+j) (rq (subQ (qx row (p+j)) (rq (mulQ f (qx piv (p+j))))))) else none
theorem elTo_none {f:RatD} {row piv:List RatD} {p k:Nat} (h:elTo f row piv p k=none):∀ j,k≤j→elTo f row piv p j=none:=by
  intro j hj
  induction hj with
  | refl=>exact h
  | step _ ih=>simp only [elTo,ih]
theorem qx_set {r:List RatD} {i j:Nat} {x:RatD} (h:i ≠ j):qx (r.set i x) j=qx r j:=by
  simp only [qx,List.getD,List.getElem?_set,if_neg h]
theorem elTo_out {f:RatD} {row piv:List RatD} {p:Nat}:∀ {j:Nat} {r:List RatD},elTo f row piv p j=some r→r.length=row.length∧∀ i,p+j≤i→qx r i=qx row i
  | 0,r,h=>by simp only [elTo,Option.some.injEq] at h;subst h;exact ⟨rfl,fun i _=>rfl⟩
  | j+1,r,h=>by
    simp only [elTo] at h
    split at h
    · cases h
    · rename_i r0 h0
      split at h
      · cases h
        obtain ⟨h1,h2⟩:=elTo_out h0
        exact ⟨by rw [List.length_set];exact h1,fun i hi=>by rw [qx_set (by omega)];exact h2 i (by omega)⟩
      · cases h
def elF (row piv:List RatD) (p:Nat):Option (List RatD):=if (divQ (qx row p) (qx piv p)).2.2=true then elTo (rq (divQ (qx row p) (qx piv p))) row piv p (row.length - p) else none
theorem end2 {ty:TypeId→Option TyI} {N:Nat} {s:AS} {rv:List ResultVar} {R:AV→List (List AV)→Prop} {e:Exit} (g:Nat) {xs:List AV} {r:AV} {l l':List AV} (he:e=.normal∨e=.ret) (hx:finA ty N s rv=some xs) (hob:s.ob 1000000=some l) (hob':s.ob 1000001=some l') (h:ALe (outA [1000000,1000001] g (retA xs)) r) (hR:R r [outAs [1000000,1000001] g l,outAs [1000000,1000001] g l']):EndA ty N 2 rv R e s :=
  ⟨he,[],g,xs,[outAs [1000000,1000001] g l,outAs [1000000,1000001] g l'],hx,by decide,by simp,by simp [lentN,obsOut,hob,hob',List.range_succ],r,by simpa [lentN,List.range_succ] using h,by simpa using hR⟩
theorem outAs_cQ (ns:List Nat) (g:Nat) (l:List RatD):outAs ns g (cQ l)=cQ l:=by unfold cQ;exact outAs_mapd ..
theorem entAs_cQ (l:List RatD):entAs (cQ l)=cQ l:=by unfold cQ;exact entAs_mapd ..
theorem cQ_scrubs (fb fo:Nat→Bool) (l:List RatD):scrubs fb fo (cQ l)=cQ l:=by unfold cQ;exact scrubs_mapd ..
theorem cQ_scrubm (fb fo:Nat→Bool) (l:List RatD):List.map (scrub fb fo) (cQ l)=cQ l:=by rw [← scrubs_map];exact cQ_scrubs fb fo l
theorem cQ_renAs (ns:List Nat) (d:Nat) (l:List RatD):renAs ns d (cQ l)=cQ l:=by unfold cQ;exact renAs_mapd ..
attribute [go_sem] cQ_scrubs cQ_scrubm cQ_renAs outAs_cQ entAs_cQ
set_option maxHeartbeats 2000000 in
theorem eliminateA (row piv:List RatD) (p:Nat) (hp:p<row.length) (hl:piv.length=row.length) (hr:row.length≤100):AFn 59 [.arr 0 2 row.length,.arr 1 2 piv.length,.d (.int p)] [cQ row,cQ piv] (fun r os=>∃ row',row'.length=row.length∧r=.d (.bool (elF row piv p).isSome)∧os=[cQ row',cQ piv]∧∀ x,elF row piv p=some x→row'=x):=by
  refine afn_of (rv:=[.tmp 6]) tyT_ok Try.func59 rfl (by decide +kernel) Try.ntmps59 rfl (by simp) ?_
  have hp2:p<piv.length:=by omega
  have n1:=cQ_len row
  have n2:=cQ_len piv
  have d1:=cQ_ld row p hp
  have d2:=cQ_ld piv p hp2
  refine awp_weak (s':=mkS [(0,.arr 1000000 2 row.length),(1,.arr 1000001 2 piv.length),(2,.d (.int (p:Nat)))] [(1000000,cQ row),(1000001,cQ piv)]) (by (refine sle_mk ?_ ?_ <;> simp (disch:=(first | omega | (simp;omega))) only [go_sem,w64,entAs_cQ] <;> exact leafs)) ?_
  repeat' (first | refine awp_seq ?_ | refine stp ?_ | refine blk_o (by decide) ?_ | (apply awp_condB;(focus (simp (disch:=(first | omega | (simp;omega))) only [go_sem,w64,d1,d2,n1,n2];try exact rfl));first | with_reducible refine condOf_t ?_ | with_reducible refine condOf_f ?_) | (refine awp_region' tyT_ok ?_;intro K hK) | (refine awp_drawA ?_;intro K hK) | (with_reducible refine hK _ ?_;clear hK K) | (refine stq ?_;simp (disch:=(first | omega | (simp;omega))) only [go_sem,w64,d1,d2,n1,n2]) | refine and_side ?_ | fail)
  (first | refine callA (implDivA (qx row p) (qx piv p)) ?_ | refine callD (implDivA (qx row p) (qx piv p)) ?_ | refine callE (implDivA (qx row p) (qx piv p)) ?_ | refine callF (implDivA (qx row p) (qx piv p)) ?_ ?_)
  have hF:elF row piv p=if (divQ (qx row p) (qx piv p)).2.2=true then elTo (rq (divQ (qx row p) (qx piv p))) row piv p (row.length - p) else none:=rfl
  generalize divQ (qx row p) (qx piv p)=t at hF ⊢
  cases ht:t.2.2 with
  | false =>
    rw [if_neg (by rw [ht];decide)] at hF
    repeat' (first | refine awp_seq ?_ | refine stp ?_ | refine blk_o (by decide) ?_ | (apply awp_condB;(focus (simp (disch:=(first | omega | (simp;omega))) only [go_sem,w64,tupQ,ratDV,ht];try exact rfl));first | with_reducible refine condOf_t ?_ | with_reducible refine condOf_f ?_) | (refine awp_region' tyT_ok ?_;intro K hK) | (refine awp_drawA ?_;intro K hK) | (with_reducible refine hK _ ?_;clear hK K) | (refine stq ?_;simp (disch:=(first | omega | (simp;omega))) only [go_sem,w64,tupQ,ratDV,ht]) | refine and_side ?_ | fail)
    refine end2 0 (.inr rfl) (by simp (disch:=(first | omega | (simp;omega))) only [go_sem,w64];rfl) (by simp (disch:=(first | omega | (simp;omega))) only [go_sem,w64];rfl) (by simp (disch:=(first | omega | (simp;omega))) only [go_sem,w64];rfl) (r:=.d (.bool false)) (by simp (disch:=(first | omega | (simp;omega))) only [go_sem,w64];exact .refl _) ⟨row,rfl,by rw [hF];rfl,by rw [outAs_cQ,outAs_cQ],fun x hx=>by rw [hF] at hx;cases hx⟩
  | true =>
    rw [if_pos ht] at hF
    generalize hf:rq t=f at hF
    repeat' (first | refine awp_seq ?_ | refine stp ?_ | refine blk_o (by decide) ?_ | (apply awp_condB;(focus (simp (disch:=(first | omega | (simp;omega))) only [go_sem,w64,tupQ,ratDV,ht,hf];try exact rfl));first | with_reducible refine condOf_t ?_ | with_reducible refine condOf_f ?_) | (refine awp_region' tyT_ok ?_;intro K hK) | (refine awp_drawA ?_;intro K hK) | (with_reducible refine hK _ ?_;clear hK K) | (refine stq ?_;simp (disch:=(first | omega | (simp;omega))) only [go_sem,w64,tupQ,ratDV,ht,hf]) | refine and_side ?_ | fail)
    refine awp_loopw (fun mm s=>∃ (j:Nat) (r:List RatD),mm=row.length - p - j∧p+j≤row.length∧elTo f row piv p j=some r∧s=mkS [(0,.arr 1000000 2 row.length),(1,.arr 1000001 2 piv.length),(7,.ptr 7 0),(9,.d (.int ((p+j:Nat):Int)))] [(1000000,cQ r),(1000001,cQ piv),(7,[.d (.int f.num),.d (.int f.den)])]) ?_ ?_
    · refine ⟨_,_,?_,0,row,rfl,by omega,rfl,rfl⟩
      exact sleA
    · rintro mm s ⟨j,r,rfl,hj,hr0,rfl⟩
      obtain ⟨hrl,hre⟩:=elTo_out hr0
      repeat' (first | refine awp_seq ?_ | refine stp ?_ | refine blk_o (by decide) ?_ | (apply awp_condB;(focus (simp (disch:=(first | omega | (simp;omega))) only [go_sem,w64];try exact rfl));first | with_reducible refine condOf_t ?_ | with_reducible refine condOf_f ?_) | (refine awp_region' tyT_ok ?_;intro K hK) | (refine awp_drawA ?_;intro K hK) | (with_reducible refine hK _ ?_;clear hK K) | (refine stq ?_;simp (disch:=(first | omega | (simp;omega))) only [go_sem,w64]) | refine and_side ?_ | fail)
      refine awp_if (p:=((p+j:Nat):Int)<(row.length:Nat)) (by simp (disch:=(first | omega | (simp;omega))) only [go_sem,w64]) ?_ ?_ <;> intro hc
      · have hk1:p+j<r.length:=by omega
        have hk2:p+j<piv.length:=by omega
        have hs:elTo f row piv p (j+1)=if (mulQ f (qx piv (p+j))).2.2=true∧(subQ (qx row (p+j)) (rq (mulQ f (qx piv (p+j))))).2.2=true then some (r.set (p+j) (rq (subQ (qx row (p+j)) (rq (mulQ f (qx piv (p+j))))))) else none:=by simp only [elTo,hr0]
        have ek:=hre (p+j) (Nat.le_refl _)
        have e1:=cQ_ld r (p+j) hk1
        have e2:=cQ_ld piv (p+j) hk2
        have n3:=cQ_len r
        have st:=fun x y=>cQ_st r (p+j) x y hk1
        have hfin:elTo f row piv p (j+1)=none→elF row piv p=none:=fun h=>by rw [hF];exact elTo_none h _ (by omega)
        rw [ek] at e1
        have hkw:p+j+1=p+(j+1):=rfl
        generalize hkk:p+j=k at *
        repeat' (first | refine awp_seq ?_ | refine stp ?_ | refine blk_o (by decide) ?_ | (apply awp_condB;(focus (simp (disch:=(first | omega | (simp;omega))) only [go_sem,w64,e2,n2];try exact rfl));first | with_reducible refine condOf_t ?_ | with_reducible refine condOf_f ?_) | (refine awp_region' tyT_ok ?_;intro K hK) | (refine awp_drawA ?_;intro K hK) | (with_reducible refine hK _ ?_;clear hK K) | (refine stq ?_;simp (disch:=(first | omega | (simp;omega))) only [go_sem,w64,e2,n2]) | refine and_side ?_ | fail)
        (first | refine callA (implMulA f (qx piv k)) ?_ | refine callD (implMulA f (qx piv k)) ?_ | refine callE (implMulA f (qx piv k)) ?_ | refine callF (implMulA f (qx piv k)) ?_ ?_)
        generalize mulQ f (qx piv k)=x at hs ⊢
        repeat' (first | refine awp_seq ?_ | refine stp ?_ | refine blk_o (by decide) ?_ | (apply awp_condB;(focus (simp (disch:=(first | omega | (simp;omega))) only [go_sem,w64,tupQ,ratDV,e1,n3];try exact rfl));first | with_reducible refine condOf_t ?_ | with_reducible refine condOf_f ?_) | (refine awp_region' tyT_ok ?_;intro K hK) | (refine awp_drawA ?_;intro K hK) | (with_reducible refine hK _ ?_;clear hK K) | (refine stq ?_;simp (disch:=(first | omega | (simp;omega))) only [go_sem,w64,tupQ,ratDV,e1,n3]) | refine and_side ?_ | fail)
        (first | refine callA (implSubA (qx row k) (rq x)) ?_ | refine callD (implSubA (qx row k) (rq x)) ?_ | refine callE (implSubA (qx row k) (rq x)) ?_ | refine callF (implSubA (qx row k) (rq x)) ?_ ?_)
        generalize subQ (qx row k) (rq x)=y at hs ⊢
        cases h1:x.2.2 with
        | false =>
          have hn:=hfin (by rw [hs,if_neg (by rw [h1];simp)])
          repeat' (first | refine awp_seq ?_ | refine stp ?_ | refine blk_o (by decide) ?_ | (apply awp_condB;(focus (simp (disch:=(first | omega | (simp;omega))) only [go_sem,w64,tupQ,ratDV,h1];try exact rfl));first | with_reducible refine condOf_t ?_ | with_reducible refine condOf_f ?_) | (refine awp_region' tyT_ok ?_;intro K hK) | (refine awp_drawA ?_;intro K hK) | (with_reducible refine hK _ ?_;clear hK K) | (refine stq ?_;simp (disch:=(first | omega | (simp;omega))) only [go_sem,w64,tupQ,ratDV,h1]) | refine and_side ?_ | fail)
          refine end2 0 (.inr rfl) (by simp (disch:=(first | omega | (simp;omega))) only [go_sem,w64];rfl) (by simp (disch:=(first | omega | (simp;omega))) only [go_sem,w64];rfl) (by simp (disch:=(first | omega | (simp;omega))) only [go_sem,w64];rfl) (r:=.d (.bool false)) (by simp (disch:=(first | omega | (simp;omega))) only [go_sem,w64];exact .refl _) ⟨r,hrl,by rw [hn];rfl,by rw [outAs_cQ,outAs_cQ],fun x hx=>by rw [hn] at hx;cases hx⟩
        | true =>
          cases h2:y.2.2 with
          | false =>
            have hn:=hfin (by rw [hs,if_neg (by rw [h2];simp)])
            repeat' (first | refine awp_seq ?_ | refine stp ?_ | refine blk_o (by decide) ?_ | (apply awp_condB;(focus (simp (disch:=(first | omega | (simp;omega))) only [go_sem,w64,tupQ,ratDV,h1,h2];try exact rfl));first | with_reducible refine condOf_t ?_ | with_reducible refine condOf_f ?_) | (refine awp_region' tyT_ok ?_;intro K hK) | (refine awp_drawA ?_;intro K hK) | (with_reducible refine hK _ ?_;clear hK K) | (refine stq ?_;simp (disch:=(first | omega | (simp;omega))) only [go_sem,w64,tupQ,ratDV,h1,h2]) | refine and_side ?_ | fail)
            refine end2 0 (.inr rfl) (by simp (disch:=(first | omega | (simp;omega))) only [go_sem,w64];rfl) (by simp (disch:=(first | omega | (simp;omega))) only [go_sem,w64];rfl) (by simp (disch:=(first | omega | (simp;omega))) only [go_sem,w64];rfl) (r:=.d (.bool false)) (by simp (disch:=(first | omega | (simp;omega))) only [go_sem,w64];exact .refl _) ⟨r,hrl,by rw [hn];rfl,by rw [outAs_cQ,outAs_cQ],fun x hx=>by rw [hn] at hx;cases hx⟩
          | true =>
            rw [if_pos ⟨h1,h2⟩] at hs
            repeat' (first | refine awp_seq ?_ | refine stp ?_ | refine blk_o (by decide) ?_ | (apply awp_condB;(focus (simp (disch:=(first | omega | (simp;omega))) only [go_sem,w64,tupQ,ratDV,h1,h2,n3,st];try exact rfl));first | with_reducible refine condOf_t ?_ | with_reducible refine condOf_f ?_) | (refine awp_region' tyT_ok ?_;intro K hK) | (refine awp_drawA ?_;intro K hK) | (with_reducible refine hK _ ?_;clear hK K) | (refine stq ?_;simp (disch:=(first | omega | (simp;omega))) only [go_sem,w64,tupQ,ratDV,h1,h2,n3,st]) | refine and_side ?_ | fail)
            refine ⟨row.length - p - (j+1),_,by omega,?_,j+1,_,rfl,by omega,hs,rfl⟩
            (refine sle_mk ?_ ?_ <;> simp (disch:=(first | omega | (simp;omega))) only [go_sem,w64,hkw] <;> exact leafs)
      · have hj2:j=row.length - p:=by omega
        subst hj2
        repeat' (first | refine awp_seq ?_ | refine stp ?_ | refine blk_o (by decide) ?_ | (apply awp_condB;(focus (simp (disch:=(first | omega | (simp;omega))) only [go_sem,w64];try exact rfl));first | with_reducible refine condOf_t ?_ | with_reducible refine condOf_f ?_) | (refine awp_region' tyT_ok ?_;intro K hK) | (refine awp_drawA ?_;intro K hK) | (with_reducible refine hK _ ?_;clear hK K) | (refine stq ?_;simp (disch:=(first | omega | (simp;omega))) only [go_sem,w64]) | refine and_side ?_ | fail)
        rw [hr0] at hF
        refine end2 0 (.inr rfl) (by simp (disch:=(first | omega | (simp;omega))) only [go_sem,w64];rfl) (by simp (disch:=(first | omega | (simp;omega))) only [go_sem,w64];rfl) (by simp (disch:=(first | omega | (simp;omega))) only [go_sem,w64];rfl) (r:=.d (.bool true)) (by simp (disch:=(first | omega | (simp;omega))) only [go_sem,w64];exact .refl _) ⟨r,hrl,by rw [hF];rfl,by rw [outAs_cQ,outAs_cQ],fun x hx=>by rw [hF] at hx;exact Option.some.inj hx⟩
theorem nm_ex (i:Nat):∃ o:Nat,o=i+1000001:=⟨_,rfl⟩
noncomputable def nm (i:Nat):Nat:=Classical.choose (nm_ex i)
theorem nm_eq (i:Nat):nm i=i+1000001:=Classical.choose_spec (nm_ex i)
theorem nm_ne {i o:Nat} (h:o≤1000000):(nm i=o)=False:=by rw [nm_eq];exact eq_false (by omega)
theorem ne_nm {i o:Nat} (h:o≤1000000):(o=nm i)=False:=by rw [nm_eq];exact eq_false (by omega)
theorem nm_inj {i j:Nat}:(nm i=nm j)=(i=j):=by rw [nm_eq,nm_eq];exact propext ⟨fun h=>by omega,fun h=>by omega⟩
theorem nm_beq {i o:Nat} (h:o≤1000000):(nm i == o)=false:=by rw [beq_eq_false_iff_ne,nm_eq];omega
noncomputable def mC (n N:Nat):List AV:=(List.range n).map fun i=>.arr (nm i) 2 N
def mC0 (n N:Nat):List AV:=(List.range n).map fun i=>.arr (i+1) 2 N
theorem mC_len (n N:Nat):(mC n N).length=n:=by simp [mC]
theorem mC_getD {n N i:Nat} (h:i<n) (d:AV):(mC n N).getD i d=.arr (nm i) 2 N:=by simp [mC,List.getD,h]
theorem mC_scrubm {fb fo:Nat→Bool} (n N:Nat) (h:∀ i,fo (nm i)=true):List.map (scrub fb fo) (mC n N)=mC n N:=by
  unfold mC
  rw [List.map_map]
  apply List.map_congr_left
  intro i _
  simp only [Function.comp_apply,scrub]
  rw [if_pos (h i)]
theorem mC_scrubs {fb fo:Nat→Bool} (n N:Nat) (h:∀ i,fo (nm i)=true):scrubs fb fo (mC n N)=mC n N:=by rw [scrubs_map];exact mC_scrubm n N h
theorem mC_sm {fb:Nat→Bool} {d:Nat} (n N:Nat) (h:d≤1000000):List.map (scrub fb (fun o=>!(o == d))) (mC n N)=mC n N:=mC_scrubm n N (fun i=>by rw [nm_beq h];rfl)
theorem mC_ss {fb:Nat→Bool} {d:Nat} (n N:Nat) (h:d≤1000000):scrubs fb (fun o=>!(o == d)) (mC n N)=mC n N:=mC_scrubs n N (fun i=>by rw [nm_beq h];rfl)
theorem entAs_map (l:List AV):entAs l=l.map entA:=by
  induction l with
  | nil=>rfl
  | cons x l ih=>simp [entAs,ih]
theorem outAs_map (ns:List Nat) (g:Nat) (l:List AV):outAs ns g l=l.map (outA ns g):=by
  induction l with
  | nil=>rfl
  | cons x l ih=>simp [outAs,ih]
theorem entAs_mC (n N:Nat):entAs (mC0 n N)=mC n N:=by
  rw [entAs_map]
  unfold mC0 mC
  rw [List.map_map]
  apply List.map_congr_left
  intro i _
  simp only [Function.comp_apply,entA]
  rw [nm_eq,show 1000000+(i+1)=i+1000001 by omega]
theorem lentN_idx {n j:Nat} (h:j<n):(lentN n).idxOf? (1000000+j)=some j:=by
  have hn:(lentN n).Nodup:=by
    unfold lentN
    rw [List.nodup_iff_pairwise_ne,List.pairwise_map]
    exact List.nodup_range.imp (fun {a b} hab e=>hab (by omega))
  have hl:j<(lentN n).length:=by simp [lentN,h]
  have hg:(lentN n)[j]=1000000+j:=by simp [lentN]
  rw [List.idxOf?,List.findIdx?_eq_some_iff_getElem]
  refine ⟨hl,by simp [hg],fun k hk=>?_⟩
  have:(lentN n)[k]'(by omega)=1000000+k:=by simp [lentN]
  rw [this];simp;omega
theorem outAs_mC (n N g:Nat):outAs (lentN (n+1)) g (mC n N)=mC0 n N:=by
  rw [outAs_map]
  unfold mC0 mC
  rw [List.map_map]
  apply List.map_congr_left
  intro i hi
  have hi:=List.mem_range.1 hi
  simp only [Function.comp_apply,outA]
  rw [nm_eq,show i+1000001=1000000+(i+1) by omega,lentN_idx (by omega)]
def mkF0 (tl:List (Nat×AV)) (ol:List (Nat×List AV)) (mc:List AV) (rows:List (List RatD)):AS :=
  ⟨lkT tl,fun o=>if o=1000000 then some mc else if 1000001≤o then (if o - 1000001<rows.length then some (cQ (mx rows (o - 1000001))) else none) else lkO ol o⟩
theorem mkF_ex (tl:List (Nat×AV)) (ol:List (Nat×List AV)) (mc:List AV) (rows:List (List RatD)):∃ s:AS,s=mkF0 tl ol mc rows:=⟨_,rfl⟩
noncomputable def mkF (tl:List (Nat×AV)) (ol:List (Nat×List AV)) (mc:List AV) (rows:List (List RatD)):AS:=Classical.choose (mkF_ex tl ol mc rows)
theorem mkF_eq (tl:List (Nat×AV)) (ol:List (Nat×List AV)) (mc:List AV) (rows:List (List RatD)):mkF tl ol mc rows=mkF0 tl ol mc rows:=Classical.choose_spec (mkF_ex tl ol mc rows)
section
variable {tl:List (Nat×AV)} {ol:List (Nat×List AV)} {mc:List AV} {rows:List (List RatD)}
theorem mkF_tm (tl:List (Nat×AV)) (ol:List (Nat×List AV)) (mc:List AV) (rows:List (List RatD)) (t:Nat):(mkF tl ol mc rows).tm t=lkT tl t:=by rw [mkF_eq];rfl
theorem mkF_ob0 (tl:List (Nat×AV)) (ol:List (Nat×List AV)) (mc:List AV) (rows:List (List RatD)):(mkF tl ol mc rows).ob 1000000=some mc:=by rw [mkF_eq];rfl
theorem mkF_obr {i:Nat} (h:i<rows.length):(mkF tl ol mc rows).ob (nm i)=some (cQ (mx rows i)):=by
  rw [mkF_eq,nm_eq]
  simp only [mkF0]
  rw [if_neg (by omega),if_pos (by omega),Nat.add_sub_cancel,if_pos h]
theorem mkF_obl {o:Nat} (h:o<1000000):(mkF tl ol mc rows).ob o=lkO ol o:=by
  rw [mkF_eq]
  simp only [mkF0]
  rw [if_neg (by omega),if_neg (by omega)]
theorem sle_mkF {s:AS} (h1:SOKt s tl) (h2:SOKo s ol) (h3:∃ m,s.ob 1000000=some m∧ALes m mc) (h4:∀ i,i<rows.length→s.ob (nm i)=some (cQ (mx rows i))):SLe s (mkF tl ol mc rows):=by
  have hs:=sle_mk h1 h2
  have hr:=SLe.refl s
  rw [mkF_eq]
  refine ⟨hs.1,fun o l' h=>?_⟩
  change (if o=1000000 then some mc else if 1000001≤o then (if o - 1000001<rows.length then some (cQ (mx rows (o - 1000001))) else none) else lkO ol o)=some l' at h
  split at h
  · rename_i e
    cases h
    subst e
    exact h3
  · split at h
    · rename_i e2
      split at h
      · rename_i e3
        cases h
        have:=h4 _ e3
        rw [nm_eq,Nat.sub_add_cancel e2] at this
        exact hr.2 _ _ this
      · cases h
    · exact hs.2 _ _ h
end
theorem entOb_at:∀ (os:List (List AV)) (k i:Nat),entOb os k (k+i)=(os[i]?).map entAs
  | [],k,i=>by simp [entOb]
  | l :: os,k,0=>by simp [entOb]
  | l :: os,k,i+1=>by
    simp only [entOb]
    rw [if_neg (by omega),show k+(i+1)=k+1+i by omega,entOb_at os (k+1) i]
    simp
theorem sle_entF {args:List AV} {n N:Nat} {rows:List (List RatD)} (tl:List (Nat×AV)) (h1:SOKt (entS args (mC0 n N :: rows.map cQ)) tl):SLe (entS args (mC0 n N :: rows.map cQ)) (mkF tl [] (mC n N) rows):=by
  refine sle_mkF h1 trivial ⟨mC n N,?_,?_⟩ (fun i hi=>?_)
  · rw [entS_ob,show (1000000:Nat)=1000000+0 from rfl,entOb_at]
    simp [entAs_mC]
  · have:∀ l:List AV,ALes l l:=fun l=>by
      induction l with
      | nil=>exact .nil
      | cons x l ih=>exact .cons (.refl x) ih
    exact this _
  · rw [entS_ob,nm_eq,show i+1000001=1000000+(i+1) by omega,entOb_at]
    simp [hi,mx,entAs_cQ]
theorem obsOut_all {s:AS} {nl:List Nat} {g:Nat} {f:Nat→List AV}:∀ {l:List Nat},(∀ o∈l,s.ob o=some (f o))→obsOut s nl g l=some (l.map fun o=>outAs nl g (f o))
  | [],_=>rfl
  | n :: l,h=>by
    simp only [obsOut]
    rw [h n (List.mem_cons_self ..),obsOut_all (fun o ho=>h o (List.mem_cons_of_mem _ ho))]
    rfl
theorem endF {ty:TypeId→Option TyI} {N:Nat} {s:AS} {rv:List ResultVar} {R:AV→List (List AV)→Prop} {e:Exit} {xs:List AV} {r:AV} {n M:Nat} {rows:List (List RatD)} (hrl:rows.length=n) (he:e=.normal∨e=.ret) (hx:finA ty N s rv=some xs) (h3:s.ob 1000000=some (mC n M)) (h4:∀ i,i<n→s.ob (nm i)=some (cQ (mx rows i))) (h:ALe (outA (lentN (n+1)) 0 (retA xs)) r) (hR:R r (mC0 n M :: rows.map cQ)):EndA ty N (n+1) rv R e s:=by
  have hobs:=obsOut_all (s:=s) (nl:=lentN (n+1)) (g:=0) (f:=fun o=>if o=1000000 then mC n M else cQ (mx rows (o - 1000001))) (l:=lentN (n+1)) (fun o ho=>by
    obtain ⟨j,hj,rfl⟩:=List.mem_map.1 ho
    have hj:=List.mem_range.1 hj
    cases j with
    | zero=>exact h3
    | succ j =>
      rw [if_neg (by omega),show 1000000+(j+1)=j+1000001 by omega,Nat.add_sub_cancel,← nm_eq]
      exact h4 j (by omega))
  have hlist:(lentN (n+1)).map (fun o=>outAs (lentN (n+1)) 0 (if o=1000000 then mC n M else cQ (mx rows (o - 1000001))))=mC0 n M :: rows.map cQ:=by
    conv=>lhs;arg 2;unfold lentN
    rw [List.range_succ_eq_map,List.map_cons,List.map_cons,List.map_map,List.map_map]
    congr 1
    · exact outAs_mC n M 0
    · apply List.ext_getElem
      · simp [hrl]
      · intro i h1 h2
        simp only [List.length_map] at h2
        simp only [List.getElem_map,List.getElem_range,Function.comp_apply]
        rw [if_neg (by omega),show 1000000+(i+1) - 1000001=i by omega,outAs_cQ,mx_lt h2]
  refine ⟨he,[],0,xs,mC0 n M :: rows.map cQ,hx,?_,by simp,?_,r,by simpa using h,hR⟩
  · rw [List.append_nil]
    unfold lentN
    rw [List.nodup_iff_pairwise_ne,List.pairwise_map]
    exact List.nodup_range.imp (fun {a b} hab e=>hab (by omega))
  · rw [List.append_nil,hobs,hlist]
attribute [go_sem] mkF_tm mkF_ob0 mkF_obr mkF_obl mC_sm mC_ss mC_getD mC_len nm_ne ne_nm nm_inj nm_beq
end Go.Proofs.Ytpbclpopoodklaa
