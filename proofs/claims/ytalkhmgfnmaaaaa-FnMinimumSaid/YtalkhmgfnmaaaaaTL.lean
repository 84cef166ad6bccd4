/- Lemmas for the proof of FnMinimum, part 51 of 52: no condition of their own. -/
import Derived.Test.YtalkhmgfnmaaaaaTP
import Derived.Test.YtalkhmgfnmaaaaaLD
import Derived.Test.YtalkhmgfnmaaaaaReadB
namespace Go.Proofs.Ytalkhmgfnmaaaaa
set_option linter.unusedSimpArgs false
set_option linter.unusedVariables false
attribute [local go_sem ↓] reduceIte
attribute [local go_sem] Nat.reduceEqDiff Nat.reduceLT Nat.reduceAdd Nat.reduceLeDiff Nat.reduceMul Nat.reduceBEq Nat.reduceSub reduceCtorEq Int.reduceLE Int.reduceNeg Int.reduceLT
open Go.RowKit
theorem drawMinA (code:List Int) (hl:code.length≤1048576):AFn 15 [.d (.sl 1 (code.map .byte))] [] (fun r os=>(∃ A B C,LpFit A B C∧r=.d (lpD A B C))∧os=[]):=by
  refine afn_of (rv:=[.cell 2 27]) tyT_ok Try.func15 rfl (by decide +kernel) Try.ntmps15 rfl (by simp) ?_
  repeat' (first | refine awp_seq ?_ | refine stp ?_ | refine blk_o (by decide) ?_ | (apply awp_condB;(focus (simp (disch:=(first | omega | (simp;omega))) only [go_sem,w64];try exact rfl));first | with_reducible refine condOf_t ?_ | with_reducible refine condOf_f ?_) | (refine awp_region' tyT_ok ?_;intro K hK) | (refine awp_drawA ?_;intro K hK) | (with_reducible refine hK _ ?_;clear hK K) | (refine stq ?_;simp (disch:=(first | omega | (simp;omega))) only [go_sem,w64]) | refine and_side ?_ | fail)
  refine call2 (l1NewA code hl) ?_
  repeat' (first | refine awp_seq ?_ | refine stp ?_ | refine blk_o (by decide) ?_ | (apply awp_condB;(focus (simp (disch:=(first | omega | (simp;omega))) only [go_sem,w64];try exact rfl));first | with_reducible refine condOf_t ?_ | with_reducible refine condOf_f ?_) | (refine awp_region' tyT_ok ?_;intro K hK) | (refine awp_drawA ?_;intro K hK) | (with_reducible refine hK _ ?_;clear hK K) | (refine stq ?_;simp (disch:=(first | omega | (simp;omega))) only [go_sem,w64]) | refine and_side ?_ | fail)
  (refine callL 4 (l14LpA) ?_)
  rintro r os ⟨⟨A,B,C,hF,rfl⟩,rfl⟩
  refine ⟨by decide,?_⟩
  repeat' (first | refine awp_seq ?_ | refine stp ?_ | refine blk_o (by decide) ?_ | (apply awp_condB;(focus (simp (disch:=(first | omega | (simp;omega))) only [go_sem,w64,lpD];try exact rfl));first | with_reducible refine condOf_t ?_ | with_reducible refine condOf_f ?_) | (refine awp_region' tyT_ok ?_;intro K hK) | (refine awp_drawA ?_;intro K hK) | (with_reducible refine hK _ ?_;clear hK K) | (refine stq ?_;simp (disch:=(first | omega | (simp;omega))) only [go_sem,w64,lpD]) | refine and_side ?_ | fail)
  refine end0 0 (.inr rfl) (by simp (disch:=(first | omega | (simp;omega))) only [go_sem,w64];rfl) (r:=.d (lpD A B C)) (by simp (disch:=(first | omega | (simp;omega))) only [go_sem,w64,lpD];exact .refl _) ⟨⟨_,_,_,hF,rfl⟩,rfl⟩
section
variable (A:List (List RatD)) (B C x:List RatD) (hA:A.length≤1048576) (hr:∀ i,i<A.length→(mx A i).length≤1048576) (hB:B.length≤1048576) (hC:C.length≤1048576) (hx:x.length≤1048576)
include hA hr hB hC hx
theorem implFeasMinA:AFn 20 [.d (lpD A B C),.d (ratsD x)] [] (fun r os=>r=.d (.bool (feasF A B C x 1))∧os=[]):=by
  refine afn_of (rv:=[.tmp 4]) tyT_ok Try.func20 rfl (by decide +kernel) Try.ntmps20 rfl (by simp) ?_
  repeat' (first | refine awp_seq ?_ | refine stp ?_ | refine blk_o (by decide) ?_ | (apply awp_condB;(focus (simp (disch:=(first | omega | (simp;omega))) only [go_sem,w64,lpD];try exact rfl));first | with_reducible refine condOf_t ?_ | with_reducible refine condOf_f ?_) | (refine awp_region' tyT_ok ?_;intro K hK) | (refine awp_drawA ?_;intro K hK) | (with_reducible refine hK _ ?_;clear hK K) | (refine stq ?_;simp (disch:=(first | omega | (simp;omega))) only [go_sem,w64,lpD]) | refine and_side ?_ | fail)
  (first | refine callA (implFeasA A B C x 1 hA hr hB hC hx (.inl rfl)) ?_ | refine callD (implFeasA A B C x 1 hA hr hB hC hx (.inl rfl)) ?_ | refine callE (implFeasA A B C x 1 hA hr hB hC hx (.inl rfl)) ?_ | refine callF (implFeasA A B C x 1 hA hr hB hC hx (.inl rfl)) ?_ ?_)
  repeat' (first | refine awp_seq ?_ | refine stp ?_ | refine blk_o (by decide) ?_ | (apply awp_condB;(focus (simp (disch:=(first | omega | (simp;omega))) only [go_sem,w64];try exact rfl));first | with_reducible refine condOf_t ?_ | with_reducible refine condOf_f ?_) | (refine awp_region' tyT_ok ?_;intro K hK) | (refine awp_drawA ?_;intro K hK) | (with_reducible refine hK _ ?_;clear hK K) | (refine stq ?_;simp (disch:=(first | omega | (simp;omega))) only [go_sem,w64]) | refine and_side ?_ | fail)
  (refine endA (r:=.d (.bool (feasF A B C x 1))) ?_)
  exact ⟨rfl,rfl⟩
theorem specFeasMinA:AFn 21 [.d (lpD A B C),.d (ratsD x)] [] (fun r os=>r=.d (.bool (feasF A B C x 1))∧os=[]):=by
  refine afn_of (rv:=[.tmp 4]) tyT_ok Try.func21 rfl (by decide +kernel) Try.ntmps21 rfl (by simp) ?_
  repeat' (first | refine awp_seq ?_ | refine stp ?_ | refine blk_o (by decide) ?_ | (apply awp_condB;(focus (simp (disch:=(first | omega | (simp;omega))) only [go_sem,w64,lpD];try exact rfl));first | with_reducible refine condOf_t ?_ | with_reducible refine condOf_f ?_) | (refine awp_region' tyT_ok ?_;intro K hK) | (refine awp_drawA ?_;intro K hK) | (with_reducible refine hK _ ?_;clear hK K) | (refine stq ?_;simp (disch:=(first | omega | (simp;omega))) only [go_sem,w64,lpD]) | refine and_side ?_ | fail)
  (first | refine callA (specSideA A B C x 1 hA hr hB hC hx (.inl rfl)) ?_ | refine callD (specSideA A B C x 1 hA hr hB hC hx (.inl rfl)) ?_ | refine callE (specSideA A B C x 1 hA hr hB hC hx (.inl rfl)) ?_ | refine callF (specSideA A B C x 1 hA hr hB hC hx (.inl rfl)) ?_ ?_)
  repeat' (first | refine awp_seq ?_ | refine stp ?_ | refine blk_o (by decide) ?_ | (apply awp_condB;(focus (simp (disch:=(first | omega | (simp;omega))) only [go_sem,w64];try exact rfl));first | with_reducible refine condOf_t ?_ | with_reducible refine condOf_f ?_) | (refine awp_region' tyT_ok ?_;intro K hK) | (refine awp_drawA ?_;intro K hK) | (with_reducible refine hK _ ?_;clear hK K) | (refine stq ?_;simp (disch:=(first | omega | (simp;omega))) only [go_sem,w64]) | refine and_side ?_ | fail)
  (refine endA (r:=.d (.bool (feasF A B C x 1))) ?_)
  exact ⟨rfl,rfl⟩
end
theorem fit_sz {A:List (List RatD)} {B C:List RatD} (h:LpFit A B C):A.length≤1048576∧(∀ i,i<A.length→(mx A i).length≤1048576)∧B.length≤1048576∧C.length≤1048576:=by
  have:=h.a;have:=h.b;have:=h.c
  exact ⟨by omega,fun i hi=>by have:=(h.r (mx A i) (by simp [mx,hi])).1;omega,by omega,by omega⟩
theorem mn_law {A:List (List RatD)} {B C:List RatD} (h:(mnF A B C).found=true):lpV A B C=true∧fvF A B C=vertF A B C 1∧BestOK C (vertF A B C 1) 1 (mnF A B C):=by
  unfold mnF at h ⊢
  split at h
  · rename_i hc
    rw [if_pos hc]
    exact ⟨hc.1,by unfold fvF;rw [if_pos hc.1],bestF_ok _ _ (.inl rfl)⟩
  · cases h
set_option maxHeartbeats 4000000 in
theorem lawMinA (code:List Int) (hl:code.length≤9223372036854775807):AFn 4 [.d (.sl 1 (code.map .byte))] [] (fun r os=>r=.d (.bool true)∧os=[]):=by
  refine afn_of (rv:=[.tmp 2]) tyT_ok Try.func4 rfl (by decide +kernel) Try.ntmps4 rfl (by simp) ?_
  by_cases hb:(1048576:Int)<(code.length:Nat)
  · repeat' (first | refine awp_seq ?_ | refine stp ?_ | refine blk_o (by decide) ?_ | (apply awp_condB;(focus (simp (disch:=(first | omega | (simp;omega))) only [go_sem,w64];try exact rfl));first | with_reducible refine condOf_t ?_ | with_reducible refine condOf_f ?_) | (refine awp_region' tyT_ok ?_;intro K hK) | (refine awp_drawA ?_;intro K hK) | (with_reducible refine hK _ ?_;clear hK K) | (refine stq ?_;simp (disch:=(first | omega | (simp;omega))) only [go_sem,w64]) | refine and_side ?_ | fail)
    (first | refine callA (bigA code hl) ?_ | refine callD (bigA code hl) ?_ | refine callE (bigA code hl) ?_ | refine callF (bigA code hl) ?_ ?_)
    repeat' (first | refine awp_seq ?_ | refine stp ?_ | refine blk_o (by decide) ?_ | (apply awp_condB;(focus (simp (disch:=(first | omega | (simp;omega))) only [go_sem,w64,hb];try exact rfl));first | with_reducible refine condOf_t ?_ | with_reducible refine condOf_f ?_) | (refine awp_region' tyT_ok ?_;intro K hK) | (refine awp_drawA ?_;intro K hK) | (with_reducible refine hK _ ?_;clear hK K) | (refine stq ?_;simp (disch:=(first | omega | (simp;omega))) only [go_sem,w64,hb]) | refine and_side ?_ | fail)
    (refine endA (r:=.d (.bool true)) ?_)
    exact ⟨rfl,rfl⟩
  have hb':(1048576:Int)<(code.length:Nat)↔False:=iff_of_false hb id
  have hc:code.length≤1048576:=by omega
  repeat' (first | refine awp_seq ?_ | refine stp ?_ | refine blk_o (by decide) ?_ | (apply awp_condB;(focus (simp (disch:=(first | omega | (simp;omega))) only [go_sem,w64];try exact rfl));first | with_reducible refine condOf_t ?_ | with_reducible refine condOf_f ?_) | (refine awp_region' tyT_ok ?_;intro K hK) | (refine awp_drawA ?_;intro K hK) | (with_reducible refine hK _ ?_;clear hK K) | (refine stq ?_;simp (disch:=(first | omega | (simp;omega))) only [go_sem,w64]) | refine and_side ?_ | fail)
  (first | refine callA (bigA code hl) ?_ | refine callD (bigA code hl) ?_ | refine callE (bigA code hl) ?_ | refine callF (bigA code hl) ?_ ?_)
  repeat' (first | refine awp_seq ?_ | refine stp ?_ | refine blk_o (by decide) ?_ | (apply awp_condB;(focus (simp (disch:=(first | omega | (simp;omega))) only [go_sem,w64,hb'];try exact rfl));first | with_reducible refine condOf_t ?_ | with_reducible refine condOf_f ?_) | (refine awp_region' tyT_ok ?_;intro K hK) | (refine awp_drawA ?_;intro K hK) | (with_reducible refine hK _ ?_;clear hK K) | (refine stq ?_;simp (disch:=(first | omega | (simp;omega))) only [go_sem,w64,hb']) | refine and_side ?_ | fail)
  refine callE (drawMinA code hc) ?_
  rintro r os ⟨⟨A,B,C,hF,rfl⟩,rfl⟩
  obtain ⟨hA,hr,hB,hC⟩:=fit_sz hF
  refine ⟨by decide,?_⟩
  repeat' (first | refine awp_seq ?_ | refine stp ?_ | refine blk_o (by decide) ?_ | (apply awp_condB;(focus (simp (disch:=(first | omega | (simp;omega))) only [go_sem,w64,lpD];try exact rfl));first | with_reducible refine condOf_t ?_ | with_reducible refine condOf_f ?_) | (refine awp_region' tyT_ok ?_;intro K hK) | (refine awp_drawA ?_;intro K hK) | (with_reducible refine hK _ ?_;clear hK K) | (refine stq ?_;simp (disch:=(first | omega | (simp;omega))) only [go_sem,w64,lpD]) | refine and_side ?_ | fail)
  (first | refine callA (implMinA A B C hA hr hB hC) ?_ | refine callD (implMinA A B C hA hr hB hC) ?_ | refine callE (implMinA A B C hA hr hB hC) ?_ | refine callF (implMinA A B C hA hr hB hC) ?_ ?_)
  have hpl:=mn_sz A B C
  generalize hM:mnF A B C=M at *
  repeat' (first | refine awp_seq ?_ | refine stp ?_ | refine blk_o (by decide) ?_ | (apply awp_condB;(focus (simp (disch:=(first | omega | (simp;omega))) only [go_sem,w64,ansB,ratDV,lpD];try exact rfl));first | with_reducible refine condOf_t ?_ | with_reducible refine condOf_f ?_) | (refine awp_region' tyT_ok ?_;intro K hK) | (refine awp_drawA ?_;intro K hK) | (with_reducible refine hK _ ?_;clear hK K) | (refine stq ?_;simp (disch:=(first | omega | (simp;omega))) only [go_sem,w64,ansB,ratDV,lpD]) | refine and_side ?_ | fail)
  have hsp:=specMinA A B C hA hB hC
  rw [hM] at hsp
  (first | refine callA (hsp) ?_ | refine callD (hsp) ?_ | refine callE (hsp) ?_ | refine callF (hsp) ?_ ?_)
  have hne:(M.found != M.found)=false:=by simp
  repeat' (first | refine awp_seq ?_ | refine stp ?_ | refine blk_o (by decide) ?_ | (apply awp_condB;(focus (simp (disch:=(first | omega | (simp;omega))) only [go_sem,w64,ansBS,ratDV,lpD];try exact rfl));first | with_reducible refine condOf_t ?_ | with_reducible refine condOf_f ?_) | (refine awp_region' tyT_ok ?_;intro K hK) | (with_reducible refine hK _ ?_;clear hK K) | (refine stq ?_;simp (disch:=(first | omega | (simp;omega))) only [go_sem,w64,ansBS,ratDV,lpD]) | refine and_side ?_ | fail)
  refine awp_weak (s':=mkS [(3,.ptr 3 0),(4,.d (ratsD M.pt)),(5,.ptr 5 0),(6,.d (.bool M.found)),(7,.d (ratsD M.pt)),(8,.ptr 8 0),(9,.d (.bool M.found))] [(3,[.d (matD A),.d (ratsD B),.d (ratsD C)]),(5,[.d (.int M.val.num),.d (.int M.val.den)]),(8,[.d (.int M.val.num),.d (.int M.val.den)])]) (by exact sleA) ?_
  have heq:eqQ M.pt M.pt=true:=eqQ_self _
  have hse:=specEqA M.pt M.pt (by omega) (by omega)
  rw [heq] at hse
  have hlpI:=implLpA A B C hA hr hB hC
  have hlpS:=specLpA A B C hA hB hC
  have hlpn:(lpV A B C != lpV A B C)=false:=by simp
  repeat' (first | refine awp_seq ?_ | refine stp ?_ | refine blk_o (by decide) ?_ | (apply awp_condB;(focus (simp (disch:=(first | omega | (simp;omega))) only [go_sem,w64,hne,eqT2,eqDs,eqD,and_self,true_and,lpD];try exact rfl));first | with_reducible refine condOf_t ?_ | with_reducible refine condOf_f ?_) | (refine awp_region' tyT_ok ?_;intro K hK) | (refine awp_drawA ?_;intro K hK) | (with_reducible refine hK _ ?_;clear hK K) | (refine stq ?_;simp (disch:=(first | omega | (simp;omega))) only [go_sem,w64,hne,eqT2,eqDs,eqD,and_self,true_and,lpD]) | refine and_side ?_ | fail)
  (first | refine callA (hse) ?_ | refine callD (hse) ?_ | refine callE (hse) ?_ | refine callF (hse) ?_ ?_)
  repeat' (first | refine awp_seq ?_ | refine stp ?_ | refine blk_o (by decide) ?_ | (apply awp_condB;(focus (simp (disch:=(first | omega | (simp;omega))) only [go_sem,w64,lpD];try exact rfl));first | with_reducible refine condOf_t ?_ | with_reducible refine condOf_f ?_) | (refine awp_region' tyT_ok ?_;intro K hK) | (refine awp_drawA ?_;intro K hK) | (with_reducible refine hK _ ?_;clear hK K) | (refine stq ?_;simp (disch:=(first | omega | (simp;omega))) only [go_sem,w64,lpD]) | refine and_side ?_ | fail)
  (first | refine callA (hlpI) ?_ | refine callD (hlpI) ?_ | refine callE (hlpI) ?_ | refine callF (hlpI) ?_ ?_)
  repeat' (first | refine awp_seq ?_ | refine stp ?_ | refine blk_o (by decide) ?_ | (apply awp_condB;(focus (simp (disch:=(first | omega | (simp;omega))) only [go_sem,w64,lpD];try exact rfl));first | with_reducible refine condOf_t ?_ | with_reducible refine condOf_f ?_) | (refine awp_region' tyT_ok ?_;intro K hK) | (refine awp_drawA ?_;intro K hK) | (with_reducible refine hK _ ?_;clear hK K) | (refine stq ?_;simp (disch:=(first | omega | (simp;omega))) only [go_sem,w64,lpD]) | refine and_side ?_ | fail)
  (first | refine callA (hlpS) ?_ | refine callD (hlpS) ?_ | refine callE (hlpS) ?_ | refine callF (hlpS) ?_ ?_)
  cases hfd:M.found with
  | false =>
    generalize lpV A B C=lv at *
    repeat' (first | refine awp_seq ?_ | refine stp ?_ | refine blk_o (by decide) ?_ | (apply awp_condB;(focus (simp (disch:=(first | omega | (simp;omega))) only [go_sem,w64,hlpn];try exact rfl));first | with_reducible refine condOf_t ?_ | with_reducible refine condOf_f ?_) | (refine awp_region' tyT_ok ?_;intro K hK) | (refine awp_drawA ?_;intro K hK) | (with_reducible refine hK _ ?_;clear hK K) | (refine stq ?_;simp (disch:=(first | omega | (simp;omega))) only [go_sem,w64,hlpn]) | refine and_side ?_ | fail)
    (refine endA (r:=.d (.bool true)) ?_)
    exact ⟨rfl,rfl⟩
  | true =>
    have hml:=mn_law (by rw [hM];exact hfd)
    rw [hM] at hml
    obtain ⟨hlp,hfv,hbo⟩:=hml
    obtain ⟨_,hVl,hVn,hC5⟩:=vert_law (sg:=1) hlp
    have hVf:=vert_feas (sg:=1) hlp
    have hfvA:=implFvA A B C hA hr hB hC
    rw [hfv] at hfvA
    generalize vertF A B C 1=V at *
    generalize lpV A B C=lv at *
    have hVm:(V.map whQ).length=V.length:=List.length_map ..
    obtain ⟨hpV,hpd⟩:=hbo.at' hfd
    have hpf:=hVf _ hpV
    repeat' (first | refine awp_seq ?_ | refine stp ?_ | refine blk_o (by decide) ?_ | (apply awp_condB;(focus (simp (disch:=(first | omega | (simp;omega))) only [go_sem,w64,hlpn,lpD];try exact rfl));first | with_reducible refine condOf_t ?_ | with_reducible refine condOf_f ?_) | (refine awp_region' tyT_ok ?_;intro K hK) | (refine awp_drawA ?_;intro K hK) | (with_reducible refine hK _ ?_;clear hK K) | (refine stq ?_;simp (disch:=(first | omega | (simp;omega))) only [go_sem,w64,hlpn,lpD]) | refine and_side ?_ | fail)
    (first | refine callA (hfvA) ?_ | refine callD (hfvA) ?_ | refine callE (hfvA) ?_ | refine callF (hfvA) ?_ ?_)
    repeat' (first | refine awp_seq ?_ | refine stp ?_ | refine blk_o (by decide) ?_ | (apply awp_condB;(focus (simp (disch:=(first | omega | (simp;omega))) only [go_sem,w64,hVm];try exact rfl));first | with_reducible refine condOf_t ?_ | with_reducible refine condOf_f ?_) | (refine awp_region' tyW_ok ?_;intro K hK) | (refine awp_drawA ?_;intro K hK) | (with_reducible refine hK _ ?_;clear hK K) | (refine stq ?_;simp (disch:=(first | omega | (simp;omega))) only [go_sem,w64,hVm]) | refine and_side ?_ | fail)
    refine awp_loopw (fun mm s=>∃ i,mm=V.length - i∧i≤V.length∧s=mkS [(3,.ptr 3 0),(4,.d (ratsD M.pt)),(5,.ptr 5 0),(10,.d (.wh 1 (V.map whQ))),(11,.d (.bool ((V.take i).any fun y=>eqQ y M.pt))),(12,.d (.int (i:Nat)))] [(3,[.d (matD A),.d (ratsD B),.d (ratsD C)]),(5,[.d (.int M.val.num),.d (.int M.val.den)])]) ?_ ?_
    · refine ⟨_,_,?_,0,rfl,Nat.zero_le _,rfl⟩
      (refine sle_mk ?_ ?_ <;> simp (disch:=(first | omega | (simp;omega))) only [go_sem,w64,hVm,List.take_zero,List.any_nil] <;> exact leafs)
    · rintro mm s ⟨i,rfl,hi,rfl⟩
      repeat' (first | refine awp_seq ?_ | refine stp ?_ | refine blk_o (by decide) ?_ | (apply awp_condB;(focus (simp (disch:=(first | omega | (simp;omega))) only [go_sem,w64,hVm];try exact rfl));first | with_reducible refine condOf_t ?_ | with_reducible refine condOf_f ?_) | (refine awp_region' tyW_ok ?_;intro K hK) | (refine awp_drawA ?_;intro K hK) | (with_reducible refine hK _ ?_;clear hK K) | (refine stq ?_;simp (disch:=(first | omega | (simp;omega))) only [go_sem,w64,hVm]) | refine and_side ?_ | fail)
      refine awp_if (p:=(i:Int)<(V.length:Nat)) (by simp (disch:=(first | omega | (simp;omega))) only [go_sem,w64,hVm]) ?_ ?_ <;> intro hc2
      · have hi2:i<V.length:=by omega
        have g0:(V.map whQ).getD i (.bool false)=whQ (mx V i):=by simp [List.getD,mx,hi2]
        have hxm:mx V i∈V:=by simp [mx,hi2]
        have hxl:=hVl _ hxm
        have hxf:=hVf _ hxm
        have ht:(V.take (i+1)).any (fun y=>eqQ y M.pt)=((V.take i).any (fun y=>eqQ y M.pt) || eqQ (mx V i) M.pt):=by rw [List.take_add_one,List.getElem?_eq_getElem hi2,List.any_append];simp [mx,hi2]
        have hd:=implDotA C (mx V i) hC (by omega)
        have hfm:=implFeasMinA A B C (mx V i) hA hr hB hC (by omega)
        have hbb:=hbo.best _ hxm
        have hee:=specEqA (mx V i) M.pt (by omega) (by omega)
        rw [hxf] at hfm
        generalize mx V i=x at *
        repeat' (first | refine awp_seq ?_ | refine stp ?_ | refine blk_o (by decide) ?_ | (apply awp_condB;(focus (simp (disch:=(first | omega | (simp;omega))) only [go_sem,w64,hVm,g0];try exact rfl));first | with_reducible refine condOf_t ?_ | with_reducible refine condOf_f ?_) | (refine awp_region' tyW_ok ?_;intro K hK) | (refine awp_drawA ?_;intro K hK) | (with_reducible refine hK _ ?_;clear hK K) | (refine stq ?_;simp (disch:=(first | omega | (simp;omega))) only [go_sem,w64,hVm,g0]) | refine and_side ?_ | fail)
        (first | refine callA (hd) ?_ | refine callD (hd) ?_ | refine callE (hd) ?_ | refine callF (hd) ?_ ?_)
        cases hdd:dotF C x with
        | none =>
          repeat' (first | refine awp_seq ?_ | refine stp ?_ | refine blk_o (by decide) ?_ | (apply awp_condB;(focus (simp (disch:=(first | omega | (simp;omega))) only [go_sem,w64,ansQ,ratDV,hVm,g0,lpD];try exact rfl));first | with_reducible refine condOf_t ?_ | with_reducible refine condOf_f ?_) | (refine awp_region' tyW_ok ?_;intro K hK) | (refine awp_drawA ?_;intro K hK) | (with_reducible refine hK _ ?_;clear hK K) | (refine stq ?_;simp (disch:=(first | omega | (simp;omega))) only [go_sem,w64,ansQ,ratDV,hVm,g0,lpD]) | refine and_side ?_ | fail)
          (first | refine callA (hfm) ?_ | refine callD (hfm) ?_ | refine callE (hfm) ?_ | refine callF (hfm) ?_ ?_)
          cases hmt:(V.take i).any (fun y=>eqQ y M.pt) with
          | true =>
            rw [hmt,Bool.true_or] at ht
            repeat' (first | refine awp_seq ?_ | refine stp ?_ | refine blk_o (by decide) ?_ | (apply awp_condB;(focus (simp (disch:=(first | omega | (simp;omega))) only [go_sem,w64,hVm,g0];try exact rfl));first | with_reducible refine condOf_t ?_ | with_reducible refine condOf_f ?_) | (refine awp_region' tyW_ok ?_;intro K hK) | (refine awp_drawA ?_;intro K hK) | (with_reducible refine hK _ ?_;clear hK K) | (refine stq ?_;simp (disch:=(first | omega | (simp;omega))) only [go_sem,w64,hVm,g0]) | refine and_side ?_ | fail)
            refine ⟨V.length - (i+1),_,by omega,?_,i+1,rfl,by omega,rfl⟩
            (refine sle_mk ?_ ?_ <;> simp (disch:=(first | omega | (simp;omega))) only [go_sem,w64,ht] <;> exact leafs)
          | false =>
            rw [hmt,Bool.false_or] at ht
            repeat' (first | refine awp_seq ?_ | refine stp ?_ | refine blk_o (by decide) ?_ | (apply awp_condB;(focus (simp (disch:=(first | omega | (simp;omega))) only [go_sem,w64,hVm,g0];try exact rfl));first | with_reducible refine condOf_t ?_ | with_reducible refine condOf_f ?_) | (refine awp_region' tyW_ok ?_;intro K hK) | (refine awp_drawA ?_;intro K hK) | (with_reducible refine hK _ ?_;clear hK K) | (refine stq ?_;simp (disch:=(first | omega | (simp;omega))) only [go_sem,w64,hVm,g0]) | refine and_side ?_ | fail)
            (first | refine callA (hee) ?_ | refine callD (hee) ?_ | refine callE (hee) ?_ | refine callF (hee) ?_ ?_)
            repeat' (first | refine awp_seq ?_ | refine stp ?_ | refine blk_o (by decide) ?_ | (apply awp_condB;(focus (simp (disch:=(first | omega | (simp;omega))) only [go_sem,w64];try exact rfl));first | with_reducible refine condOf_t ?_ | with_reducible refine condOf_f ?_) | (refine awp_region' tyW_ok ?_;intro K hK) | (refine awp_drawA ?_;intro K hK) | (with_reducible refine hK _ ?_;clear hK K) | (refine stq ?_;simp (disch:=(first | omega | (simp;omega))) only [go_sem,w64]) | refine and_side ?_ | fail)
            refine ⟨V.length - (i+1),_,by omega,?_,i+1,rfl,by omega,rfl⟩
            (refine sle_mk ?_ ?_ <;> simp (disch:=(first | omega | (simp;omega))) only [go_sem,w64,ht] <;> exact leafs)
        | some u =>
          obtain ⟨_,hcm⟩:=hbb u hdd
          rw [Int.one_mul] at hcm
          have hci:=implCmpA u M.val
          generalize cmpQ u M.val=cc at *
          have z1:decide (cc<0)=false:=decide_eq_false hcm
          repeat' (first | refine awp_seq ?_ | refine stp ?_ | refine blk_o (by decide) ?_ | (apply awp_condB;(focus (simp (disch:=(first | omega | (simp;omega))) only [go_sem,w64,ansQ,ratDV,hVm,g0,lpD];try exact rfl));first | with_reducible refine condOf_t ?_ | with_reducible refine condOf_f ?_) | (refine awp_region' tyW_ok ?_;intro K hK) | (refine awp_drawA ?_;intro K hK) | (with_reducible refine hK _ ?_;clear hK K) | (refine stq ?_;simp (disch:=(first | omega | (simp;omega))) only [go_sem,w64,ansQ,ratDV,hVm,g0,lpD]) | refine and_side ?_ | fail)
          (first | refine callA (hfm) ?_ | refine callD (hfm) ?_ | refine callE (hfm) ?_ | refine callF (hfm) ?_ ?_)
          repeat' (first | refine awp_seq ?_ | refine stp ?_ | refine blk_o (by decide) ?_ | (apply awp_condB;(focus (simp (disch:=(first | omega | (simp;omega))) only [go_sem,w64,hVm,g0,ratDV];try exact rfl));first | with_reducible refine condOf_t ?_ | with_reducible refine condOf_f ?_) | (refine awp_region' tyW_ok ?_;intro K hK) | (refine awp_drawA ?_;intro K hK) | (with_reducible refine hK _ ?_;clear hK K) | (refine stq ?_;simp (disch:=(first | omega | (simp;omega))) only [go_sem,w64,hVm,g0,ratDV]) | refine and_side ?_ | fail)
          (first | refine callA (hci) ?_ | refine callD (hci) ?_ | refine callE (hci) ?_ | refine callF (hci) ?_ ?_)
          repeat' (first | refine awp_seq ?_ | refine stp ?_ | refine blk_o (by decide) ?_ | (apply awp_condB;(focus (simp (disch:=(first | omega | (simp;omega))) only [go_sem,w64,z1,hVm,g0];try exact rfl));first | with_reducible refine condOf_t ?_ | with_reducible refine condOf_f ?_) | (refine awp_region' tyW_ok ?_;intro K hK) | (refine awp_drawA ?_;intro K hK) | (with_reducible refine hK _ ?_;clear hK K) | (refine stq ?_;simp (disch:=(first | omega | (simp;omega))) only [go_sem,w64,z1,hVm,g0]) | refine and_side ?_ | fail)
          cases hmt:(V.take i).any (fun y=>eqQ y M.pt) with
          | true =>
            rw [hmt,Bool.true_or] at ht
            repeat' (first | refine awp_seq ?_ | refine stp ?_ | refine blk_o (by decide) ?_ | (apply awp_condB;(focus (simp (disch:=(first | omega | (simp;omega))) only [go_sem,w64,hVm,g0];try exact rfl));first | with_reducible refine condOf_t ?_ | with_reducible refine condOf_f ?_) | (refine awp_region' tyW_ok ?_;intro K hK) | (refine awp_drawA ?_;intro K hK) | (with_reducible refine hK _ ?_;clear hK K) | (refine stq ?_;simp (disch:=(first | omega | (simp;omega))) only [go_sem,w64,hVm,g0]) | refine and_side ?_ | fail)
            refine ⟨V.length - (i+1),_,by omega,?_,i+1,rfl,by omega,rfl⟩
            (refine sle_mk ?_ ?_ <;> simp (disch:=(first | omega | (simp;omega))) only [go_sem,w64,ht] <;> exact leafs)
          | false =>
            rw [hmt,Bool.false_or] at ht
            repeat' (first | refine awp_seq ?_ | refine stp ?_ | refine blk_o (by decide) ?_ | (apply awp_condB;(focus (simp (disch:=(first | omega | (simp;omega))) only [go_sem,w64,hVm,g0];try exact rfl));first | with_reducible refine condOf_t ?_ | with_reducible refine condOf_f ?_) | (refine awp_region' tyW_ok ?_;intro K hK) | (refine awp_drawA ?_;intro K hK) | (with_reducible refine hK _ ?_;clear hK K) | (refine stq ?_;simp (disch:=(first | omega | (simp;omega))) only [go_sem,w64,hVm,g0]) | refine and_side ?_ | fail)
            (first | refine callA (hee) ?_ | refine callD (hee) ?_ | refine callE (hee) ?_ | refine callF (hee) ?_ ?_)
            repeat' (first | refine awp_seq ?_ | refine stp ?_ | refine blk_o (by decide) ?_ | (apply awp_condB;(focus (simp (disch:=(first | omega | (simp;omega))) only [go_sem,w64];try exact rfl));first | with_reducible refine condOf_t ?_ | with_reducible refine condOf_f ?_) | (refine awp_region' tyW_ok ?_;intro K hK) | (refine awp_drawA ?_;intro K hK) | (with_reducible refine hK _ ?_;clear hK K) | (refine stq ?_;simp (disch:=(first | omega | (simp;omega))) only [go_sem,w64]) | refine and_side ?_ | fail)
            refine ⟨V.length - (i+1),_,by omega,?_,i+1,rfl,by omega,rfl⟩
            (refine sle_mk ?_ ?_ <;> simp (disch:=(first | omega | (simp;omega))) only [go_sem,w64,ht] <;> exact leafs)
      · obtain rfl:i=V.length:=by omega
        have hme:(V.take V.length).any (fun y=>eqQ y M.pt)=true:=by
          rw [List.take_length]
          exact List.any_eq_true.2 ⟨_,hpV,eqQ_self _⟩
        rw [hme]
        have hfs:=specFeasMinA A B C M.pt hA hr hB hC (by omega)
        rw [hpf] at hfs
        repeat' (first | refine awp_seq ?_ | refine stp ?_ | refine blk_o (by decide) ?_ | (apply awp_condB;(focus (simp (disch:=(first | omega | (simp;omega))) only [go_sem,w64,hVm,lpD];try exact rfl));first | with_reducible refine condOf_t ?_ | with_reducible refine condOf_f ?_) | (refine awp_region' tyT_ok ?_;intro K hK) | (refine awp_drawA ?_;intro K hK) | (with_reducible refine hK _ ?_;clear hK K) | (refine stq ?_;simp (disch:=(first | omega | (simp;omega))) only [go_sem,w64,hVm,lpD]) | refine and_side ?_ | fail)
        (first | refine callA (hfs) ?_ | refine callD (hfs) ?_ | refine callE (hfs) ?_ | refine callF (hfs) ?_ ?_)
        repeat' (first | refine awp_seq ?_ | refine stp ?_ | refine blk_o (by decide) ?_ | (apply awp_condB;(focus (simp (disch:=(first | omega | (simp;omega))) only [go_sem,w64];try exact rfl));first | with_reducible refine condOf_t ?_ | with_reducible refine condOf_f ?_) | (refine awp_region' tyT_ok ?_;intro K hK) | (refine awp_drawA ?_;intro K hK) | (with_reducible refine hK _ ?_;clear hK K) | (refine stq ?_;simp (disch:=(first | omega | (simp;omega))) only [go_sem,w64]) | refine and_side ?_ | fail)
        (refine endA (r:=.d (.bool true)) ?_)
        exact ⟨rfl,rfl⟩
theorem law_FnMinimum (a0:Option Addr) (n0:Nat) (c0:Nat) (xs0:List Int) (w:World) (hD0:BytesA false (0) w.heap.size w a0 n0 c0 xs0) :
    Calls Try.prog 4 #[.slice a0 n0 c0] w (Leaves w (.bool true)):=by
  have h:=lawMinA xs0 (by rw [hD0.len];exact hD0.small)
  refine law_of_afn (vs:=[.slice a0 n0 c0]) h (fun G hG=>⟨_,_,rfl,cvSl.2 (bytes_cx hD0 (fun b i _ hb=>by rw [hG];exact hb)),rfl⟩)
end Go.Proofs.Ytalkhmgfnmaaaaa
