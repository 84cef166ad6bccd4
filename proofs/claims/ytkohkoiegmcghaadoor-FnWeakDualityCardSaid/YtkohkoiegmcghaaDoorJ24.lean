/- Lemmas for the proof of FnCoverDuality, part 24 of 25: no condition of their own. -/
import Derived.Test.YtkohkoiegmcghaaDoorJ20
import Derived.Test.YtkohkoiegmcghaaDoorJ23
namespace Go.Proofs.YtkohkoiegmcghaaDoor
set_option linter.unusedSimpArgs false
set_option linter.unusedVariables false
attribute [local go_sem ↓] reduceIte
attribute [local go_sem] Nat.reduceEqDiff Nat.reduceLT Nat.reduceAdd Nat.reduceLeDiff Nat.reduceMul Nat.reduceBEq Nat.reduceSub reduceCtorEq Int.reduceLE Int.reduceNeg Int.reduceLT
open Go.RowKit
theorem wts_sum {w:List RatD} (ha:admB w=true) (hw:Wts w) (hl:w.length≤4):∃ s,sumF w=some s:=by
 by_cases h0:w.length=0
 ·exact ⟨⟨0,1⟩,by unfold sumF;rw [h0];rfl⟩
 have had:∀ i,i<w.length→vR (qx w i)=true∧(0≤(qx w i).num∧(qx w i).num≤1000)∧(qx w i).den≤1000:=fun i hi=>by
  have:=List.all_eq_true.1 ha _ (mem_qx hi)
  simp only [Bool.and_eq_true,decide_eq_true_eq] at this
  exact ⟨this.1,this.2.1,this.2.2⟩
 obtain ⟨v0,n0,d0⟩:=had 0 (by omega)
 have p0:=vR_pos v0
 generalize hD:(qx w 0).den=D0 at *
 refine sumF_fits (D:=6*D0) (K:=18000) (by omega) (by omega) (fun x hx=>?_) (by omega)
 obtain ⟨i,hi,rfl⟩:=List.getElem_of_mem hx
 have e:w[i]=qx w i:=by simp [qx,List.getD,hi]
 rw [e]
 obtain ⟨vi,ni,_⟩:=had i hi
 refine ⟨vi,?_⟩
 by_cases hi0:i=0
 ·subst hi0
  refine ⟨6*(qx w 0).num,by omega,?_⟩
  show ((qx w 0).num:Rat) / ((qx w 0).den:Rat)=_
  rw [hD]
  exact quot_conv (by omega) (by omega) (by rw [Int.mul_left_comm,Int.mul_assoc])
 ·obtain ⟨_,⟨m0,m3⟩,hd⟩:=hw i (by omega) hi
  have key:∀ k:Int,(qx w i).den*k=6→0≤k→k≤6→∃ X:Int,X.natAbs≤18000∧qv (qx w i)=(X:Rat) / ((6*D0:Int):Rat):=fun k hk k0 k6=>by
   refine ⟨(qx w i).num*k*D0,?_,?_⟩
   ·have h1:((qx w i).num*k).natAbs≤18:=Nat.le_trans (abs_mul_le (A:=3) (B:=6) (by omega) (by omega)) (by omega)
    exact Nat.le_trans (abs_mul_le (A:=18) (B:=1000) h1 (by omega)) (by omega)
   ·show ((qx w i).num:Rat) / ((qx w i).den:Rat)=_
    refine quot_conv (by omega) (by omega) ?_
    rw [Int.mul_assoc,Int.mul_assoc,Int.mul_comm D0,← Int.mul_assoc k,Int.mul_comm k,hk]
  rcases hd with h | h | h
  ·exact key 6 (by omega) (by omega) (by omega)
  ·exact key 3 (by omega) (by omega) (by omega)
  ·exact key 2 (by omega) (by omega) (by omega)
theorem wd_law {nv:Int} {xs:List AtomD} {us:List Int} {w:List RatD} (h:covF nv xs us w=true) (hw:Wts w):∃ s,sumF w=some s∧(mpF nv xs us).found=true∧sumF (mpF nv xs us).pt=some (mpF nv xs us).val∧decide (cmpQ (mpF nv xs us).val s≤0)=true:=by
 unfold covF at h
 simp only [Bool.and_eq_true,decide_eq_true_eq] at h
 obtain ⟨hq,⟨had,hlw⟩,hcv⟩:=h
 obtain ⟨⟨v1,v2⟩,x1,x2⟩:=qOK_sz hq
 obtain ⟨s,hs⟩:=wts_sum had hw (by omega)
 have hL:=cover_lp hq
 have e1:cpF nv xs us=⟨cvA (idTo nv.toNat) xs,List.replicate nv.toNat q1,List.replicate xs.length q1,true⟩:=by unfold cpF;rw [if_pos hq]
 have ep:mpF nv xs us=mxF (trQ (cvA (idTo nv.toNat) xs) (List.replicate xs.length q1).length) (List.replicate xs.length q1) (List.replicate nv.toNat q1):=by
  unfold mpF dpF dlF;rw [e1,if_pos hL.lp]
 obtain ⟨f1,f2,hwk⟩:=hL.weak2 (w:=w) (fun i hi=>by
  have:=List.all_eq_true.1 had _ (mem_qx (show i<w.length by omega))
  simp only [Bool.and_eq_true,decide_eq_true_eq] at this
  exact (qv_nonneg this.1).2 this.2.1.1) hcv hlw hs
 rw [← ep] at hwk f1 f2
 have hv1:=(sumF_lsum f2).1
 have hv2:=(sumF_lsum hs).1
 have:=(cmpQ_le hv1 hv2).2 hwk
 exact ⟨s,hs,f1,f2,decide_eq_true (by omega)⟩
theorem gstep0 {P:Cx→Prop} {N:Nat} {l:List Oper} {o:Oper} {s:AS} {K:AS→Prop} (hg:o.guard=none) (h:LStep P N o s K):GStep P N l o s K:=by
 unfold GStep;rw [hg];exact h
theorem gstep1 {P:Cx→Prop} {N:Nat} {l:List Oper} {o:Oper} {s:AS} {K:AS→Prop} {j t:Nat} {want:Bool} (hg:o.guard=some (j,want)) (ht:(l[j]?).bind (·.dst)=some t) (htN:t<N) (hb:s.tm t=.d (.bool want)) (h:LStep P N o s K):GStep P N l o s K:=by
 unfold GStep;rw [hg];exact ⟨t,ht,htN,hb,h⟩
theorem vsteps_cons {P:Cx→Prop} {N:Nat} {l r:List Oper} {s:AS} {dv:List (Nat×AV)} {i:Nat} {o:Oper} (h1:∀ d:Nat→Bool,(∀ e∈o.after.toList,Region.binds .any e=true→d e.on=true)→GStep P N l o (stV s dv d) (fun s'=>s'=(stV s dv d).put (dvA dv i).1 (dvA dv i).2)) (h2:VSteps P N l s dv r (i+1)):VSteps P N l s dv (o :: r) i:=⟨h1,h2⟩
section
variable {x1 x2 x3 w z1 z2 z3 y:DV} {b1 b2:Bool}
def dvW (x1 x2 x3 w z1 z2 z3 y:DV) (b1 b2:Bool):List (Nat×AV):=[(26,.d (.agg [x1,x2,x3])),(27,.d w),(28,.d (.bool b1)),(29,.d (.agg [x1,x2,x3])),(30,.d w),(31,.d (.bool b1)),(32,.d (.bool false)),(33,.d (.bool false)),(34,.d (.agg [z1,z2,z3])),(35,.d y),(36,.d (.bool b2)),(37,.d (.agg [z1,z2,z3])),(38,.d y),(39,.d (.bool b2)),(40,.d (.bool false)),(41,.d (.bool false))]
def s0W (x1 x2 x3 w z1 z2 z3 y:DV):AS:=mkS [(3,.ptr 3 0),(4,.d w),(5,.ptr 5 0),(6,.d y)] [(3,[.d x1,.d x2,.d x3]),(5,[.d z1,.d z2,.d z3])]
theorem dvW_len:(dvW x1 x2 x3 w z1 z2 z3 y b1 b2).length=16:=rfl
theorem dvW_key:∀ j,j<16→(dvA (dvW x1 x2 x3 w z1 z2 z3 y b1 b2) j).1=26+j
 | 0,_ | 1,_ | 2,_ | 3,_ | 4,_ | 5,_ | 6,_ | 7,_ | 8,_ | 9,_ | 10,_ | 11,_ | 12,_ | 13,_ | 14,_ | 15,_=>rfl
 | j+16,h=>by omega
theorem dvW_dis:Dis (dvW x1 x2 x3 w z1 z2 z3 y b1 b2):=fun j k hj hk e=>by
 rw [dvW_len] at hj hk
 rw [dvW_key j hj,dvW_key k hk] at e
 omega
theorem dvW_off {x:Nat} (h:x<26):∀ j,j<(dvW x1 x2 x3 w z1 z2 z3 y b1 b2).length→(dvA (dvW x1 x2 x3 w z1 z2 z3 y b1 b2) j).1 ≠ x:=fun j hj=>by
 rw [dvW_len] at hj
 rw [dvW_key j hj];omega
theorem dvW_tm {s:AS} {d:Nat→Bool} (j:Nat) (hj:j<16) (h:d j=true):(stV s (dvW x1 x2 x3 w z1 z2 z3 y b1 b2) d).tm (26+j)=(dvA (dvW x1 x2 x3 w z1 z2 z3 y b1 b2) j).2:=by
 have:=stV_at (s:=s) (d:=d) (dvW_dis (x1:=x1) (x2:=x2) (x3:=x3) (w:=w) (z1:=z1) (z2:=z2) (z3:=z3) (y:=y) (b1:=b1) (b2:=b2)) (j:=j) (by rw [dvW_len];exact hj) h
 rwa [dvW_key j hj] at this
theorem dvW_nm {t:Nat} (j:Nat):NoNm t (dvA (dvW x1 x2 x3 w z1 z2 z3 y b1 b2) j).2:=by
 match j with
 | 0 | 1 | 2 | 3 | 4 | 5 | 6 | 7 | 8 | 9 | 10 | 11 | 12 | 13 | 14 | 15=>rfl
 | j+16=>rfl
theorem mkS_tm_of {L:List (Nat×AV)} {O:List (Nat×List AV)} {p:AV→Prop} (h0:p .junk) (h:∀ x∈L,p x.2) (t:Nat):p ((mkS L O).tm t):=by
 show p (lkT L t)
 induction L with
 | nil=>exact h0
 | cons x L ih =>
  simp only [lkT]
  split
  ·exact h _ List.mem_cons_self
  ·exact ih fun y hy=>h y (List.mem_cons_of_mem _ hy)
theorem s0W_nm {t:Nat} (h3:t ≠ 3) (h5:t ≠ 5) (x:Nat):NoNm t ((s0W x1 x2 x3 w z1 z2 z3 y).tm x):=by
 have n3:(!(3 == t))=true:=by simp;exact fun e=>h3 e.symm
 have n5:(!(5 == t))=true:=by simp;exact fun e=>h5 e.symm
 refine mkS_tm_of (p:=NoNm t) rfl (fun z hz=>?_) x
 simp only [List.mem_cons,List.not_mem_nil,or_false] at hz
 rcases hz with rfl | rfl | rfl | rfl
 ·simp only [NoNm,scrub,n3,if_true]
 ·rfl
 ·simp only [NoNm,scrub,n5,if_true]
 ·rfl
theorem s0W_ob {t:Nat}:∀ o m,(s0W x1 x2 x3 w z1 z2 z3 y).ob o=some m→∀ x∈m,NoNm t x:=fun o m h x hx=>by
 have key:∀ a b c:DV,x∈[AV.d a,.d b,.d c]→NoNm t x:=fun a b c hl=>by
  simp only [List.mem_cons,List.not_mem_nil,or_false] at hl
  rcases hl with rfl | rfl | rfl <;> rfl
 by_cases h3:o=3
 ·subst h3
  have e:some [AV.d x1,.d x2,.d x3]=some m:=h
  cases e;exact key _ _ _ hx
 ·by_cases h5:o=5
  ·subst h5
   have e:some [AV.d z1,.d z2,.d z3]=some m:=h
   cases e;exact key _ _ _ hx
  ·have e:(s0W x1 x2 x3 w z1 z2 z3 y).ob o=none:=by simp only [s0W,mkS,lkO,h3,h5,if_false]
   rw [e] at h;cases h
end
set_option maxRecDepth 100000 in
set_option maxHeartbeats 8000000 in
theorem lawWeakG (code:List Int) (hl:code.length≤9223372036854775807):AFnG 3 [.d (.sl 1 (code.map .byte))] (fun r os=>r=.d (.bool true)∧os=[]):=by
 refine afn_ofG (rv:=[.tmp 2]) tyW_ok Tryd.func3 rfl (by decide +kernel) Tryd.ntmps3 rfl (by simp) ?_
 by_cases hb:(1048576:Int)<(code.length:Nat)
 ·repeat' (first | refine sq ?_ | refine stp ?_ | refine blk_o (by decide) ?_ | (apply cb;(focus (simp (disch:=(first | omega | (simp;omega))) only [go_sem,w64];try exact rfl));refine cok ?_) | (refine rgT ?_;intro K hK) | (refine dA ?_;intro K hK) | (with_reducible refine hK _ ?_;clear hK K) | (refine stq ?_;simp (disch:=(first | omega | (simp;omega))) only [go_sem,w64]) | refine as1 ?_ | fail)
  (first | refine callA (bigA code hl) ?_ | refine callD (bigA code hl) ?_ | refine callE (bigA code hl) ?_ | refine callF (bigA code hl) ?_ ?_)
  repeat' (first | refine sq ?_ | refine stp ?_ | refine blk_o (by decide) ?_ | (apply cb;(focus (simp (disch:=(first | omega | (simp;omega))) only [go_sem,w64,hb];try exact rfl));refine cok ?_) | (refine rgT ?_;intro K hK) | (refine dA ?_;intro K hK) | (with_reducible refine hK _ ?_;clear hK K) | (refine stq ?_;simp (disch:=(first | omega | (simp;omega))) only [go_sem,w64,hb]) | refine as1 ?_ | fail)
  (refine endA (r:=.d (.bool true)) ?_)
  exact ⟨rfl,rfl⟩
 have hb':(1048576:Int)<(code.length:Nat)↔False:=iff_of_false hb id
 have hc:code.length≤1048576:=by omega
 repeat' (first | refine sq ?_ | refine stp ?_ | refine blk_o (by decide) ?_ | (apply cb;(focus (simp (disch:=(first | omega | (simp;omega))) only [go_sem,w64];try exact rfl));refine cok ?_) | (refine rgT ?_;intro K hK) | (refine dA ?_;intro K hK) | (with_reducible refine hK _ ?_;clear hK K) | (refine stq ?_;simp (disch:=(first | omega | (simp;omega))) only [go_sem,w64]) | refine as1 ?_ | fail)
 (first | refine callA (bigA code hl) ?_ | refine callD (bigA code hl) ?_ | refine callE (bigA code hl) ?_ | refine callF (bigA code hl) ?_ ?_)
 repeat' (first | refine sq ?_ | refine stp ?_ | refine blk_o (by decide) ?_ | (apply cb;(focus (simp (disch:=(first | omega | (simp;omega))) only [go_sem,w64,hb'];try exact rfl));refine cok ?_) | (refine rgT ?_;intro K hK) | (refine dA ?_;intro K hK) | (with_reducible refine hK _ ?_;clear hK K) | (refine stq ?_;simp (disch:=(first | omega | (simp;omega))) only [go_sem,w64,hb']) | refine as1 ?_ | fail)
 refine callE (drawCovA code hc) ?_
 rintro r os ⟨nv,xs,us,w,hA,hw,hws,rfl,rfl⟩
 refine ⟨by decide,?_⟩
 repeat' (first | refine sq ?_ | refine stp ?_ | refine blk_o (by decide) ?_ | (apply cb;(focus (simp (disch:=(first | omega | (simp;omega))) only [go_sem,w64,queryD,intsD,ratsD];try exact rfl));refine cok ?_) | (refine rgT ?_;intro K hK) | (refine dA ?_;intro K hK) | (with_reducible refine hK _ ?_;clear hK K) | (refine stq ?_;simp (disch:=(first | omega | (simp;omega))) only [go_sem,w64,queryD,intsD,ratsD]) | refine as1 ?_ | fail)
 refine callE (drawPakA code hc) ?_
 rintro r os ⟨nv2,xs2,us2,y,hA2,hy,rfl,rfl⟩
 refine ⟨by decide,?_⟩
 have hx5:=hA.a1
 have hx52:=hA2.a1
 have hC1:=implCovG nv xs us hA.nm w (by omega) (by omega)
 have hC2:=afnG_calls (specCovA nv xs us hA.nm w (by omega) (by omega))
 have hC3:=specCovA nv xs us hA.nm w (by omega) (by omega)
 have hK1:=implPakG nv2 xs2 us2 hA2.nm y (by omega) (by omega)
 have hK2:=afnG_calls (specPakA nv2 xs2 us2 hA2.nm y (by omega) (by omega))
 have hmp:=implMaxPackG nv xs us hA.nm
 have hps:=mp_sz nv xs us
 have hs1:=implSumA w (by omega)
 have hs2:=implSumA (mpF nv xs us).pt hps
 have hwd:=fun h=>wd_law (nv:=nv) (xs:=xs) (us:=us) (w:=w) h hws
 generalize covF nv xs us w=b1 at *
 generalize pakF nv2 xs2 us2 y=b2 at *
 generalize mpF nv xs us=M at *
 repeat' (first | refine sq ?_ | refine stp ?_ | refine blk_o (by decide) ?_ | (apply cb;(focus (simp (disch:=(first | omega | (simp;omega))) only [go_sem,w64,queryD,intsD,ratsD];try exact rfl));refine cok ?_) | (with_reducible refine hK _ ?_;clear hK K) | (refine stq ?_;simp (disch:=(first | omega | (simp;omega))) only [go_sem,w64,queryD,intsD,ratsD]) | refine as1 ?_ | fail)
 refine awp_weak (s':=s0W (.int nv) (.sl 2 (xs.map atomDV)) (.sl 1 (us.map .int)) (ratsD w) (.int nv2) (.sl 2 (xs2.map atomDV)) (.sl 1 (us2.map .int)) (ratsD y)) (by unfold s0W;(refine sle_mk ?_ ?_ <;> simp (disch:=(first | omega | (simp;omega))) only [go_sem,w64,ratsD] <;> exact leafs)) ?_
 obtain ⟨x1,ex1⟩:∃ x1:DV,.int nv=x1:=⟨_,rfl⟩
 obtain ⟨x2,ex2⟩:∃ x2:DV,.sl 2 (xs.map atomDV)=x2:=⟨_,rfl⟩
 obtain ⟨x3,ex3⟩:∃ x3:DV,.sl 1 (us.map .int)=x3:=⟨_,rfl⟩
 obtain ⟨z1,ez1⟩:∃ x1:DV,.int nv2=x1:=⟨_,rfl⟩
 obtain ⟨z2,ez2⟩:∃ x2:DV,.sl 2 (xs2.map atomDV)=x2:=⟨_,rfl⟩
 obtain ⟨z3,ez3⟩:∃ x3:DV,.sl 1 (us2.map .int)=x3:=⟨_,rfl⟩
 have eq1:queryD nv xs us=.agg [x1,x2,x3]:=by rw [← ex1,← ex2,← ex3]
 have eq2:queryD nv2 xs2 us2=.agg [z1,z2,z3]:=by rw [← ez1,← ez2,← ez3]
 rw [eq1] at hC1 hC2 hC3 hmp
 rw [eq2] at hK1 hK2
 rw [ex1,ex2,ex3,ez1,ez2,ez3]
 obtain ⟨wd,ewd⟩:∃ x1:DV,ratsD w=x1:=⟨_,rfl⟩
 obtain ⟨yd,eyd⟩:∃ x1:DV,ratsD y=x1:=⟨_,rfl⟩
 rw [ewd] at hC1 hC2 hC3 hs1
 rw [eyd] at hK1 hK2
 rw [ewd,eyd]
 refine awp_drawV (by kernel_rfl) (dvW x1 x2 x3 wd z1 z2 z3 yd b1 b2) rfl dvW_dis (by kernel_rfl) ?hst ?hen
 case hst =>
  refine vsteps_cons (fun d hd=>?_) ?_
  ·have e3:(stV (s0W x1 x2 x3 wd z1 z2 z3 yd) (dvW x1 x2 x3 wd z1 z2 z3 yd b1 b2) d).tm 3=.ptr 3 0:=stV_off (dvW_off (by decide))
   have e4:(stV (s0W x1 x2 x3 wd z1 z2 z3 yd) (dvW x1 x2 x3 wd z1 z2 z3 yd b1 b2) d).tm 4=.d wd:=stV_off (dvW_off (by decide))
   have e5:(stV (s0W x1 x2 x3 wd z1 z2 z3 yd) (dvW x1 x2 x3 wd z1 z2 z3 yd b1 b2) d).tm 5=.ptr 5 0:=stV_off (dvW_off (by decide))
   have e6:(stV (s0W x1 x2 x3 wd z1 z2 z3 yd) (dvW x1 x2 x3 wd z1 z2 z3 yd b1 b2) d).tm 6=.d yd:=stV_off (dvW_off (by decide))
   have o3:(stV (s0W x1 x2 x3 wd z1 z2 z3 yd) (dvW x1 x2 x3 wd z1 z2 z3 yd b1 b2) d).ob 3=some [.d x1,.d x2,.d x3]:=rfl
   have o5:(stV (s0W x1 x2 x3 wd z1 z2 z3 yd) (dvW x1 x2 x3 wd z1 z2 z3 yd b1 b2) d).ob 5=some [.d z1,.d z2,.d z3]:=rfl
   have hv:dvA (dvW x1 x2 x3 wd z1 z2 z3 yd b1 b2) 0=(26,.d (.agg [x1,x2,x3])):=rfl
   rw [hv]
   generalize stV (s0W x1 x2 x3 wd z1 z2 z3 yd) (dvW x1 x2 x3 wd z1 z2 z3 yd b1 b2) d=S at *
   refine gstep0 rfl ?_
   refine lstep_of tyT_ok ?_
   simp (disch:=(first | omega | (simp;omega))) only [go_sem,w64,e3,e4,e5,e6,o3,o5]
  refine vsteps_cons (fun d hd=>?_) ?_
  ·have e3:(stV (s0W x1 x2 x3 wd z1 z2 z3 yd) (dvW x1 x2 x3 wd z1 z2 z3 yd b1 b2) d).tm 3=.ptr 3 0:=stV_off (dvW_off (by decide))
   have e4:(stV (s0W x1 x2 x3 wd z1 z2 z3 yd) (dvW x1 x2 x3 wd z1 z2 z3 yd b1 b2) d).tm 4=.d wd:=stV_off (dvW_off (by decide))
   have e5:(stV (s0W x1 x2 x3 wd z1 z2 z3 yd) (dvW x1 x2 x3 wd z1 z2 z3 yd b1 b2) d).tm 5=.ptr 5 0:=stV_off (dvW_off (by decide))
   have e6:(stV (s0W x1 x2 x3 wd z1 z2 z3 yd) (dvW x1 x2 x3 wd z1 z2 z3 yd b1 b2) d).tm 6=.d yd:=stV_off (dvW_off (by decide))
   have o3:(stV (s0W x1 x2 x3 wd z1 z2 z3 yd) (dvW x1 x2 x3 wd z1 z2 z3 yd b1 b2) d).ob 3=some [.d x1,.d x2,.d x3]:=rfl
   have o5:(stV (s0W x1 x2 x3 wd z1 z2 z3 yd) (dvW x1 x2 x3 wd z1 z2 z3 yd b1 b2) d).ob 5=some [.d z1,.d z2,.d z3]:=rfl
   have hv:dvA (dvW x1 x2 x3 wd z1 z2 z3 yd b1 b2) 1=(27,.d (wd)):=rfl
   rw [hv]
   generalize stV (s0W x1 x2 x3 wd z1 z2 z3 yd) (dvW x1 x2 x3 wd z1 z2 z3 yd b1 b2) d=S at *
   refine gstep0 rfl ?_
   refine lstep_of tyT_ok ?_
   simp (disch:=(first | omega | (simp;omega))) only [go_sem,w64,e3,e4,e5,e6,o3,o5]
  refine vsteps_cons (fun d hd=>?_) ?_
  ·have e3:(stV (s0W x1 x2 x3 wd z1 z2 z3 yd) (dvW x1 x2 x3 wd z1 z2 z3 yd b1 b2) d).tm 3=.ptr 3 0:=stV_off (dvW_off (by decide))
   have e4:(stV (s0W x1 x2 x3 wd z1 z2 z3 yd) (dvW x1 x2 x3 wd z1 z2 z3 yd b1 b2) d).tm 4=.d wd:=stV_off (dvW_off (by decide))
   have e5:(stV (s0W x1 x2 x3 wd z1 z2 z3 yd) (dvW x1 x2 x3 wd z1 z2 z3 yd b1 b2) d).tm 5=.ptr 5 0:=stV_off (dvW_off (by decide))
   have e6:(stV (s0W x1 x2 x3 wd z1 z2 z3 yd) (dvW x1 x2 x3 wd z1 z2 z3 yd b1 b2) d).tm 6=.d yd:=stV_off (dvW_off (by decide))
   have o3:(stV (s0W x1 x2 x3 wd z1 z2 z3 yd) (dvW x1 x2 x3 wd z1 z2 z3 yd b1 b2) d).ob 3=some [.d x1,.d x2,.d x3]:=rfl
   have o5:(stV (s0W x1 x2 x3 wd z1 z2 z3 yd) (dvW x1 x2 x3 wd z1 z2 z3 yd b1 b2) d).ob 5=some [.d z1,.d z2,.d z3]:=rfl
   have t26:(stV (s0W x1 x2 x3 wd z1 z2 z3 yd) (dvW x1 x2 x3 wd z1 z2 z3 yd b1 b2) d).tm 26=.d (.agg [x1,x2,x3]):=dvW_tm 0 (by decide) (hd _ List.mem_cons_self rfl)
   have t27:(stV (s0W x1 x2 x3 wd z1 z2 z3 yd) (dvW x1 x2 x3 wd z1 z2 z3 yd b1 b2) d).tm 27=.d (wd):=dvW_tm 1 (by decide) (hd _ (List.mem_cons_of_mem _ List.mem_cons_self) rfl)
   have hcl:(stV (s0W x1 x2 x3 wd z1 z2 z3 yd) (dvW x1 x2 x3 wd z1 z2 z3 yd b1 b2) d).call [] 28 []=stV (s0W x1 x2 x3 wd z1 z2 z3 yd) (dvW x1 x2 x3 wd z1 z2 z3 yd b1 b2) d:=stV_call (s0W_nm (by decide) (by decide)) dvW_nm rfl s0W_ob
   have hv:dvA (dvW x1 x2 x3 wd z1 z2 z3 yd b1 b2) 2=(28,.d (.bool b1)):=rfl
   rw [hv]
   generalize stV (s0W x1 x2 x3 wd z1 z2 z3 yd) (dvW x1 x2 x3 wd z1 z2 z3 yd b1 b2) d=S at *
   refine gstep0 rfl ?_
   refine lcallG 28 rfl rfl rfl (by decide) hC1 (by simp (disch:=(first | omega | (simp;omega))) only [go_sem,w64,e3,e4,e5,e6,o3,o5,t26,t27];(repeat (first | exact ASubs.nil | refine ASubs.cons (by first | exact ASub.d _ | exact ASub.dd (dle_wh _ _) | exact ASub.dd (dle_rowsV _) | exact ASub.dd (dle_rowsW _) | exact ASub.dd (dle_relW _ _) | exact ASub.bufd _ _ (dle_rowsV _) | exact ASub.nil _ | exact ASub.nn | exact ASub.buf _ _ _ _ | exact ASub.loc _ | exact ASub.ptr _ _ _ rfl | exact ASub.arr _ _ _ _ rfl | exact ASub.any _ | exact ASub.std rfl (dle_refl _)) ?_));done) ?_
   rintro r os ⟨rfl,rfl⟩
   exact ⟨by simp,by rw [hcl];rfl⟩
  refine vsteps_cons (fun d hd=>?_) ?_
  ·have e3:(stV (s0W x1 x2 x3 wd z1 z2 z3 yd) (dvW x1 x2 x3 wd z1 z2 z3 yd b1 b2) d).tm 3=.ptr 3 0:=stV_off (dvW_off (by decide))
   have e4:(stV (s0W x1 x2 x3 wd z1 z2 z3 yd) (dvW x1 x2 x3 wd z1 z2 z3 yd b1 b2) d).tm 4=.d wd:=stV_off (dvW_off (by decide))
   have e5:(stV (s0W x1 x2 x3 wd z1 z2 z3 yd) (dvW x1 x2 x3 wd z1 z2 z3 yd b1 b2) d).tm 5=.ptr 5 0:=stV_off (dvW_off (by decide))
   have e6:(stV (s0W x1 x2 x3 wd z1 z2 z3 yd) (dvW x1 x2 x3 wd z1 z2 z3 yd b1 b2) d).tm 6=.d yd:=stV_off (dvW_off (by decide))
   have o3:(stV (s0W x1 x2 x3 wd z1 z2 z3 yd) (dvW x1 x2 x3 wd z1 z2 z3 yd b1 b2) d).ob 3=some [.d x1,.d x2,.d x3]:=rfl
   have o5:(stV (s0W x1 x2 x3 wd z1 z2 z3 yd) (dvW x1 x2 x3 wd z1 z2 z3 yd b1 b2) d).ob 5=some [.d z1,.d z2,.d z3]:=rfl
   have hv:dvA (dvW x1 x2 x3 wd z1 z2 z3 yd b1 b2) 3=(29,.d (.agg [x1,x2,x3])):=rfl
   rw [hv]
   generalize stV (s0W x1 x2 x3 wd z1 z2 z3 yd) (dvW x1 x2 x3 wd z1 z2 z3 yd b1 b2) d=S at *
   refine gstep0 rfl ?_
   refine lstep_of tyT_ok ?_
   simp (disch:=(first | omega | (simp;omega))) only [go_sem,w64,e3,e4,e5,e6,o3,o5]
  refine vsteps_cons (fun d hd=>?_) ?_
  ·have e3:(stV (s0W x1 x2 x3 wd z1 z2 z3 yd) (dvW x1 x2 x3 wd z1 z2 z3 yd b1 b2) d).tm 3=.ptr 3 0:=stV_off (dvW_off (by decide))
   have e4:(stV (s0W x1 x2 x3 wd z1 z2 z3 yd) (dvW x1 x2 x3 wd z1 z2 z3 yd b1 b2) d).tm 4=.d wd:=stV_off (dvW_off (by decide))
   have e5:(stV (s0W x1 x2 x3 wd z1 z2 z3 yd) (dvW x1 x2 x3 wd z1 z2 z3 yd b1 b2) d).tm 5=.ptr 5 0:=stV_off (dvW_off (by decide))
   have e6:(stV (s0W x1 x2 x3 wd z1 z2 z3 yd) (dvW x1 x2 x3 wd z1 z2 z3 yd b1 b2) d).tm 6=.d yd:=stV_off (dvW_off (by decide))
   have o3:(stV (s0W x1 x2 x3 wd z1 z2 z3 yd) (dvW x1 x2 x3 wd z1 z2 z3 yd b1 b2) d).ob 3=some [.d x1,.d x2,.d x3]:=rfl
   have o5:(stV (s0W x1 x2 x3 wd z1 z2 z3 yd) (dvW x1 x2 x3 wd z1 z2 z3 yd b1 b2) d).ob 5=some [.d z1,.d z2,.d z3]:=rfl
   have hv:dvA (dvW x1 x2 x3 wd z1 z2 z3 yd b1 b2) 4=(30,.d (wd)):=rfl
   rw [hv]
   generalize stV (s0W x1 x2 x3 wd z1 z2 z3 yd) (dvW x1 x2 x3 wd z1 z2 z3 yd b1 b2) d=S at *
   refine gstep0 rfl ?_
   refine lstep_of tyT_ok ?_
   simp (disch:=(first | omega | (simp;omega))) only [go_sem,w64,e3,e4,e5,e6,o3,o5]
  refine vsteps_cons (fun d hd=>?_) ?_
  ·have e3:(stV (s0W x1 x2 x3 wd z1 z2 z3 yd) (dvW x1 x2 x3 wd z1 z2 z3 yd b1 b2) d).tm 3=.ptr 3 0:=stV_off (dvW_off (by decide))
   have e4:(stV (s0W x1 x2 x3 wd z1 z2 z3 yd) (dvW x1 x2 x3 wd z1 z2 z3 yd b1 b2) d).tm 4=.d wd:=stV_off (dvW_off (by decide))
   have e5:(stV (s0W x1 x2 x3 wd z1 z2 z3 yd) (dvW x1 x2 x3 wd z1 z2 z3 yd b1 b2) d).tm 5=.ptr 5 0:=stV_off (dvW_off (by decide))
   have e6:(stV (s0W x1 x2 x3 wd z1 z2 z3 yd) (dvW x1 x2 x3 wd z1 z2 z3 yd b1 b2) d).tm 6=.d yd:=stV_off (dvW_off (by decide))
   have o3:(stV (s0W x1 x2 x3 wd z1 z2 z3 yd) (dvW x1 x2 x3 wd z1 z2 z3 yd b1 b2) d).ob 3=some [.d x1,.d x2,.d x3]:=rfl
   have o5:(stV (s0W x1 x2 x3 wd z1 z2 z3 yd) (dvW x1 x2 x3 wd z1 z2 z3 yd b1 b2) d).ob 5=some [.d z1,.d z2,.d z3]:=rfl
   have t29:(stV (s0W x1 x2 x3 wd z1 z2 z3 yd) (dvW x1 x2 x3 wd z1 z2 z3 yd b1 b2) d).tm 29=.d (.agg [x1,x2,x3]):=dvW_tm 3 (by decide) (hd _ List.mem_cons_self rfl)
   have t30:(stV (s0W x1 x2 x3 wd z1 z2 z3 yd) (dvW x1 x2 x3 wd z1 z2 z3 yd b1 b2) d).tm 30=.d (wd):=dvW_tm 4 (by decide) (hd _ (List.mem_cons_of_mem _ List.mem_cons_self) rfl)
   have hcl:(stV (s0W x1 x2 x3 wd z1 z2 z3 yd) (dvW x1 x2 x3 wd z1 z2 z3 yd b1 b2) d).call [] 31 []=stV (s0W x1 x2 x3 wd z1 z2 z3 yd) (dvW x1 x2 x3 wd z1 z2 z3 yd b1 b2) d:=stV_call (s0W_nm (by decide) (by decide)) dvW_nm rfl s0W_ob
   have hv:dvA (dvW x1 x2 x3 wd z1 z2 z3 yd b1 b2) 5=(31,.d (.bool b1)):=rfl
   rw [hv]
   generalize stV (s0W x1 x2 x3 wd z1 z2 z3 yd) (dvW x1 x2 x3 wd z1 z2 z3 yd b1 b2) d=S at *
   refine gstep0 rfl ?_
   refine lcallG 31 rfl rfl rfl (by decide) hC2 (by simp (disch:=(first | omega | (simp;omega))) only [go_sem,w64,e3,e4,e5,e6,o3,o5,t29,t30];(repeat (first | exact ASubs.nil | refine ASubs.cons (by first | exact ASub.d _ | exact ASub.dd (dle_wh _ _) | exact ASub.dd (dle_rowsV _) | exact ASub.dd (dle_rowsW _) | exact ASub.dd (dle_relW _ _) | exact ASub.bufd _ _ (dle_rowsV _) | exact ASub.nil _ | exact ASub.nn | exact ASub.buf _ _ _ _ | exact ASub.loc _ | exact ASub.ptr _ _ _ rfl | exact ASub.arr _ _ _ _ rfl | exact ASub.any _ | exact ASub.std rfl (dle_refl _)) ?_));done) ?_
   rintro r os ⟨rfl,rfl⟩
   exact ⟨by simp,by rw [hcl];rfl⟩
  refine vsteps_cons (fun d hd=>?_) ?_
  ·have e3:(stV (s0W x1 x2 x3 wd z1 z2 z3 yd) (dvW x1 x2 x3 wd z1 z2 z3 yd b1 b2) d).tm 3=.ptr 3 0:=stV_off (dvW_off (by decide))
   have e4:(stV (s0W x1 x2 x3 wd z1 z2 z3 yd) (dvW x1 x2 x3 wd z1 z2 z3 yd b1 b2) d).tm 4=.d wd:=stV_off (dvW_off (by decide))
   have e5:(stV (s0W x1 x2 x3 wd z1 z2 z3 yd) (dvW x1 x2 x3 wd z1 z2 z3 yd b1 b2) d).tm 5=.ptr 5 0:=stV_off (dvW_off (by decide))
   have e6:(stV (s0W x1 x2 x3 wd z1 z2 z3 yd) (dvW x1 x2 x3 wd z1 z2 z3 yd b1 b2) d).tm 6=.d yd:=stV_off (dvW_off (by decide))
   have o3:(stV (s0W x1 x2 x3 wd z1 z2 z3 yd) (dvW x1 x2 x3 wd z1 z2 z3 yd b1 b2) d).ob 3=some [.d x1,.d x2,.d x3]:=rfl
   have o5:(stV (s0W x1 x2 x3 wd z1 z2 z3 yd) (dvW x1 x2 x3 wd z1 z2 z3 yd b1 b2) d).ob 5=some [.d z1,.d z2,.d z3]:=rfl
   have t28:(stV (s0W x1 x2 x3 wd z1 z2 z3 yd) (dvW x1 x2 x3 wd z1 z2 z3 yd b1 b2) d).tm 28=.d (.bool b1):=dvW_tm 2 (by decide) (hd _ List.mem_cons_self rfl)
   have t31:(stV (s0W x1 x2 x3 wd z1 z2 z3 yd) (dvW x1 x2 x3 wd z1 z2 z3 yd b1 b2) d).tm 31=.d (.bool b1):=dvW_tm 5 (by decide) (hd _ (List.mem_cons_of_mem _ List.mem_cons_self) rfl)
   have hv:dvA (dvW x1 x2 x3 wd z1 z2 z3 yd b1 b2) 6=(32,.d (.bool false)):=rfl
   rw [hv]
   generalize stV (s0W x1 x2 x3 wd z1 z2 z3 yd) (dvW x1 x2 x3 wd z1 z2 z3 yd b1 b2) d=S at *
   refine gstep0 rfl ?_
   have hne:(b1 != b1)=false:=by simp
   refine lstep_of tyT_ok ?_
   simp (disch:=(first | omega | (simp;omega))) only [go_sem,w64,e3,e4,e5,e6,o3,o5,t28,t31,hne]
   exact rfl
  refine vsteps_cons (fun d hd=>?_) ?_
  ·have e3:(stV (s0W x1 x2 x3 wd z1 z2 z3 yd) (dvW x1 x2 x3 wd z1 z2 z3 yd b1 b2) d).tm 3=.ptr 3 0:=stV_off (dvW_off (by decide))
   have e4:(stV (s0W x1 x2 x3 wd z1 z2 z3 yd) (dvW x1 x2 x3 wd z1 z2 z3 yd b1 b2) d).tm 4=.d wd:=stV_off (dvW_off (by decide))
   have e5:(stV (s0W x1 x2 x3 wd z1 z2 z3 yd) (dvW x1 x2 x3 wd z1 z2 z3 yd b1 b2) d).tm 5=.ptr 5 0:=stV_off (dvW_off (by decide))
   have e6:(stV (s0W x1 x2 x3 wd z1 z2 z3 yd) (dvW x1 x2 x3 wd z1 z2 z3 yd b1 b2) d).tm 6=.d yd:=stV_off (dvW_off (by decide))
   have o3:(stV (s0W x1 x2 x3 wd z1 z2 z3 yd) (dvW x1 x2 x3 wd z1 z2 z3 yd b1 b2) d).ob 3=some [.d x1,.d x2,.d x3]:=rfl
   have o5:(stV (s0W x1 x2 x3 wd z1 z2 z3 yd) (dvW x1 x2 x3 wd z1 z2 z3 yd b1 b2) d).ob 5=some [.d z1,.d z2,.d z3]:=rfl
   have t32:(stV (s0W x1 x2 x3 wd z1 z2 z3 yd) (dvW x1 x2 x3 wd z1 z2 z3 yd b1 b2) d).tm 32=.d (.bool false):=dvW_tm 6 (by decide) (hd _ List.mem_cons_self rfl)
   have hv:dvA (dvW x1 x2 x3 wd z1 z2 z3 yd b1 b2) 7=(33,.d (.bool false)):=rfl
   rw [hv]
   generalize stV (s0W x1 x2 x3 wd z1 z2 z3 yd) (dvW x1 x2 x3 wd z1 z2 z3 yd b1 b2) d=S at *
   refine gstep0 rfl ?_
   refine lstep_of tyT_ok ?_
   simp (disch:=(first | omega | (simp;omega))) only [go_sem,w64,e3,e4,e5,e6,o3,o5,t32]
  refine vsteps_cons (fun d hd=>?_) ?_
  ·have e3:(stV (s0W x1 x2 x3 wd z1 z2 z3 yd) (dvW x1 x2 x3 wd z1 z2 z3 yd b1 b2) d).tm 3=.ptr 3 0:=stV_off (dvW_off (by decide))
   have e4:(stV (s0W x1 x2 x3 wd z1 z2 z3 yd) (dvW x1 x2 x3 wd z1 z2 z3 yd b1 b2) d).tm 4=.d wd:=stV_off (dvW_off (by decide))
   have e5:(stV (s0W x1 x2 x3 wd z1 z2 z3 yd) (dvW x1 x2 x3 wd z1 z2 z3 yd b1 b2) d).tm 5=.ptr 5 0:=stV_off (dvW_off (by decide))
   have e6:(stV (s0W x1 x2 x3 wd z1 z2 z3 yd) (dvW x1 x2 x3 wd z1 z2 z3 yd b1 b2) d).tm 6=.d yd:=stV_off (dvW_off (by decide))
   have o3:(stV (s0W x1 x2 x3 wd z1 z2 z3 yd) (dvW x1 x2 x3 wd z1 z2 z3 yd b1 b2) d).ob 3=some [.d x1,.d x2,.d x3]:=rfl
   have o5:(stV (s0W x1 x2 x3 wd z1 z2 z3 yd) (dvW x1 x2 x3 wd z1 z2 z3 yd b1 b2) d).ob 5=some [.d z1,.d z2,.d z3]:=rfl
   have t33:(stV (s0W x1 x2 x3 wd z1 z2 z3 yd) (dvW x1 x2 x3 wd z1 z2 z3 yd b1 b2) d).tm 33=.d (.bool false):=dvW_tm 7 (by decide) (hd _ List.mem_cons_self rfl)
   have hv:dvA (dvW x1 x2 x3 wd z1 z2 z3 yd b1 b2) 8=(34,.d (.agg [z1,z2,z3])):=rfl
   rw [hv]
   generalize stV (s0W x1 x2 x3 wd z1 z2 z3 yd) (dvW x1 x2 x3 wd z1 z2 z3 yd b1 b2) d=S at *
   refine gstep1 (t:=33) rfl rfl (by decide) t33 ?_
   refine lstep_of tyT_ok ?_
   simp (disch:=(first | omega | (simp;omega))) only [go_sem,w64,e3,e4,e5,e6,o3,o5,t33]
  refine vsteps_cons (fun d hd=>?_) ?_
  ·have e3:(stV (s0W x1 x2 x3 wd z1 z2 z3 yd) (dvW x1 x2 x3 wd z1 z2 z3 yd b1 b2) d).tm 3=.ptr 3 0:=stV_off (dvW_off (by decide))
   have e4:(stV (s0W x1 x2 x3 wd z1 z2 z3 yd) (dvW x1 x2 x3 wd z1 z2 z3 yd b1 b2) d).tm 4=.d wd:=stV_off (dvW_off (by decide))
   have e5:(stV (s0W x1 x2 x3 wd z1 z2 z3 yd) (dvW x1 x2 x3 wd z1 z2 z3 yd b1 b2) d).tm 5=.ptr 5 0:=stV_off (dvW_off (by decide))
   have e6:(stV (s0W x1 x2 x3 wd z1 z2 z3 yd) (dvW x1 x2 x3 wd z1 z2 z3 yd b1 b2) d).tm 6=.d yd:=stV_off (dvW_off (by decide))
   have o3:(stV (s0W x1 x2 x3 wd z1 z2 z3 yd) (dvW x1 x2 x3 wd z1 z2 z3 yd b1 b2) d).ob 3=some [.d x1,.d x2,.d x3]:=rfl
   have o5:(stV (s0W x1 x2 x3 wd z1 z2 z3 yd) (dvW x1 x2 x3 wd z1 z2 z3 yd b1 b2) d).ob 5=some [.d z1,.d z2,.d z3]:=rfl
   have t33:(stV (s0W x1 x2 x3 wd z1 z2 z3 yd) (dvW x1 x2 x3 wd z1 z2 z3 yd b1 b2) d).tm 33=.d (.bool false):=dvW_tm 7 (by decide) (hd _ List.mem_cons_self rfl)
   have hv:dvA (dvW x1 x2 x3 wd z1 z2 z3 yd b1 b2) 9=(35,.d (yd)):=rfl
   rw [hv]
   generalize stV (s0W x1 x2 x3 wd z1 z2 z3 yd) (dvW x1 x2 x3 wd z1 z2 z3 yd b1 b2) d=S at *
   refine gstep1 (t:=33) rfl rfl (by decide) t33 ?_
   refine lstep_of tyT_ok ?_
   simp (disch:=(first | omega | (simp;omega))) only [go_sem,w64,e3,e4,e5,e6,o3,o5,t33]
  refine vsteps_cons (fun d hd=>?_) ?_
  ·have e3:(stV (s0W x1 x2 x3 wd z1 z2 z3 yd) (dvW x1 x2 x3 wd z1 z2 z3 yd b1 b2) d).tm 3=.ptr 3 0:=stV_off (dvW_off (by decide))
   have e4:(stV (s0W x1 x2 x3 wd z1 z2 z3 yd) (dvW x1 x2 x3 wd z1 z2 z3 yd b1 b2) d).tm 4=.d wd:=stV_off (dvW_off (by decide))
   have e5:(stV (s0W x1 x2 x3 wd z1 z2 z3 yd) (dvW x1 x2 x3 wd z1 z2 z3 yd b1 b2) d).tm 5=.ptr 5 0:=stV_off (dvW_off (by decide))
   have e6:(stV (s0W x1 x2 x3 wd z1 z2 z3 yd) (dvW x1 x2 x3 wd z1 z2 z3 yd b1 b2) d).tm 6=.d yd:=stV_off (dvW_off (by decide))
   have o3:(stV (s0W x1 x2 x3 wd z1 z2 z3 yd) (dvW x1 x2 x3 wd z1 z2 z3 yd b1 b2) d).ob 3=some [.d x1,.d x2,.d x3]:=rfl
   have o5:(stV (s0W x1 x2 x3 wd z1 z2 z3 yd) (dvW x1 x2 x3 wd z1 z2 z3 yd b1 b2) d).ob 5=some [.d z1,.d z2,.d z3]:=rfl
   have t33:(stV (s0W x1 x2 x3 wd z1 z2 z3 yd) (dvW x1 x2 x3 wd z1 z2 z3 yd b1 b2) d).tm 33=.d (.bool false):=dvW_tm 7 (by decide) (hd _ (List.mem_cons_of_mem _ (List.mem_cons_of_mem _ List.mem_cons_self)) rfl)
   have t34:(stV (s0W x1 x2 x3 wd z1 z2 z3 yd) (dvW x1 x2 x3 wd z1 z2 z3 yd b1 b2) d).tm 34=.d (.agg [z1,z2,z3]):=dvW_tm 8 (by decide) (hd _ List.mem_cons_self rfl)
   have t35:(stV (s0W x1 x2 x3 wd z1 z2 z3 yd) (dvW x1 x2 x3 wd z1 z2 z3 yd b1 b2) d).tm 35=.d (yd):=dvW_tm 9 (by decide) (hd _ (List.mem_cons_of_mem _ List.mem_cons_self) rfl)
   have hcl:(stV (s0W x1 x2 x3 wd z1 z2 z3 yd) (dvW x1 x2 x3 wd z1 z2 z3 yd b1 b2) d).call [] 36 []=stV (s0W x1 x2 x3 wd z1 z2 z3 yd) (dvW x1 x2 x3 wd z1 z2 z3 yd b1 b2) d:=stV_call (s0W_nm (by decide) (by decide)) dvW_nm rfl s0W_ob
   have hv:dvA (dvW x1 x2 x3 wd z1 z2 z3 yd b1 b2) 10=(36,.d (.bool b2)):=rfl
   rw [hv]
   generalize stV (s0W x1 x2 x3 wd z1 z2 z3 yd) (dvW x1 x2 x3 wd z1 z2 z3 yd b1 b2) d=S at *
   refine gstep1 (t:=33) rfl rfl (by decide) t33 ?_
   refine lcallG 36 rfl rfl rfl (by decide) hK1 (by simp (disch:=(first | omega | (simp;omega))) only [go_sem,w64,e3,e4,e5,e6,o3,o5,t33,t34,t35];(repeat (first | exact ASubs.nil | refine ASubs.cons (by first | exact ASub.d _ | exact ASub.dd (dle_wh _ _) | exact ASub.dd (dle_rowsV _) | exact ASub.dd (dle_rowsW _) | exact ASub.dd (dle_relW _ _) | exact ASub.bufd _ _ (dle_rowsV _) | exact ASub.nil _ | exact ASub.nn | exact ASub.buf _ _ _ _ | exact ASub.loc _ | exact ASub.ptr _ _ _ rfl | exact ASub.arr _ _ _ _ rfl | exact ASub.any _ | exact ASub.std rfl (dle_refl _)) ?_));done) ?_
   rintro r os ⟨rfl,rfl⟩
   exact ⟨by simp,by rw [hcl];rfl⟩
  refine vsteps_cons (fun d hd=>?_) ?_
  ·have e3:(stV (s0W x1 x2 x3 wd z1 z2 z3 yd) (dvW x1 x2 x3 wd z1 z2 z3 yd b1 b2) d).tm 3=.ptr 3 0:=stV_off (dvW_off (by decide))
   have e4:(stV (s0W x1 x2 x3 wd z1 z2 z3 yd) (dvW x1 x2 x3 wd z1 z2 z3 yd b1 b2) d).tm 4=.d wd:=stV_off (dvW_off (by decide))
   have e5:(stV (s0W x1 x2 x3 wd z1 z2 z3 yd) (dvW x1 x2 x3 wd z1 z2 z3 yd b1 b2) d).tm 5=.ptr 5 0:=stV_off (dvW_off (by decide))
   have e6:(stV (s0W x1 x2 x3 wd z1 z2 z3 yd) (dvW x1 x2 x3 wd z1 z2 z3 yd b1 b2) d).tm 6=.d yd:=stV_off (dvW_off (by decide))
   have o3:(stV (s0W x1 x2 x3 wd z1 z2 z3 yd) (dvW x1 x2 x3 wd z1 z2 z3 yd b1 b2) d).ob 3=some [.d x1,.d x2,.d x3]:=rfl
   have o5:(stV (s0W x1 x2 x3 wd z1 z2 z3 yd) (dvW x1 x2 x3 wd z1 z2 z3 yd b1 b2) d).ob 5=some [.d z1,.d z2,.d z3]:=rfl
   have t33:(stV (s0W x1 x2 x3 wd z1 z2 z3 yd) (dvW x1 x2 x3 wd z1 z2 z3 yd b1 b2) d).tm 33=.d (.bool false):=dvW_tm 7 (by decide) (hd _ List.mem_cons_self rfl)
   have hv:dvA (dvW x1 x2 x3 wd z1 z2 z3 yd b1 b2) 11=(37,.d (.agg [z1,z2,z3])):=rfl
   rw [hv]
   generalize stV (s0W x1 x2 x3 wd z1 z2 z3 yd) (dvW x1 x2 x3 wd z1 z2 z3 yd b1 b2) d=S at *
   refine gstep1 (t:=33) rfl rfl (by decide) t33 ?_
   refine lstep_of tyT_ok ?_
   simp (disch:=(first | omega | (simp;omega))) only [go_sem,w64,e3,e4,e5,e6,o3,o5,t33]
  refine vsteps_cons (fun d hd=>?_) ?_
  ·have e3:(stV (s0W x1 x2 x3 wd z1 z2 z3 yd) (dvW x1 x2 x3 wd z1 z2 z3 yd b1 b2) d).tm 3=.ptr 3 0:=stV_off (dvW_off (by decide))
   have e4:(stV (s0W x1 x2 x3 wd z1 z2 z3 yd) (dvW x1 x2 x3 wd z1 z2 z3 yd b1 b2) d).tm 4=.d wd:=stV_off (dvW_off (by decide))
   have e5:(stV (s0W x1 x2 x3 wd z1 z2 z3 yd) (dvW x1 x2 x3 wd z1 z2 z3 yd b1 b2) d).tm 5=.ptr 5 0:=stV_off (dvW_off (by decide))
   have e6:(stV (s0W x1 x2 x3 wd z1 z2 z3 yd) (dvW x1 x2 x3 wd z1 z2 z3 yd b1 b2) d).tm 6=.d yd:=stV_off (dvW_off (by decide))
   have o3:(stV (s0W x1 x2 x3 wd z1 z2 z3 yd) (dvW x1 x2 x3 wd z1 z2 z3 yd b1 b2) d).ob 3=some [.d x1,.d x2,.d x3]:=rfl
   have o5:(stV (s0W x1 x2 x3 wd z1 z2 z3 yd) (dvW x1 x2 x3 wd z1 z2 z3 yd b1 b2) d).ob 5=some [.d z1,.d z2,.d z3]:=rfl
   have t33:(stV (s0W x1 x2 x3 wd z1 z2 z3 yd) (dvW x1 x2 x3 wd z1 z2 z3 yd b1 b2) d).tm 33=.d (.bool false):=dvW_tm 7 (by decide) (hd _ List.mem_cons_self rfl)
   have hv:dvA (dvW x1 x2 x3 wd z1 z2 z3 yd b1 b2) 12=(38,.d (yd)):=rfl
   rw [hv]
   generalize stV (s0W x1 x2 x3 wd z1 z2 z3 yd) (dvW x1 x2 x3 wd z1 z2 z3 yd b1 b2) d=S at *
   refine gstep1 (t:=33) rfl rfl (by decide) t33 ?_
   refine lstep_of tyT_ok ?_
   simp (disch:=(first | omega | (simp;omega))) only [go_sem,w64,e3,e4,e5,e6,o3,o5,t33]
  refine vsteps_cons (fun d hd=>?_) ?_
  ·have e3:(stV (s0W x1 x2 x3 wd z1 z2 z3 yd) (dvW x1 x2 x3 wd z1 z2 z3 yd b1 b2) d).tm 3=.ptr 3 0:=stV_off (dvW_off (by decide))
   have e4:(stV (s0W x1 x2 x3 wd z1 z2 z3 yd) (dvW x1 x2 x3 wd z1 z2 z3 yd b1 b2) d).tm 4=.d wd:=stV_off (dvW_off (by decide))
   have e5:(stV (s0W x1 x2 x3 wd z1 z2 z3 yd) (dvW x1 x2 x3 wd z1 z2 z3 yd b1 b2) d).tm 5=.ptr 5 0:=stV_off (dvW_off (by decide))
   have e6:(stV (s0W x1 x2 x3 wd z1 z2 z3 yd) (dvW x1 x2 x3 wd z1 z2 z3 yd b1 b2) d).tm 6=.d yd:=stV_off (dvW_off (by decide))
   have o3:(stV (s0W x1 x2 x3 wd z1 z2 z3 yd) (dvW x1 x2 x3 wd z1 z2 z3 yd b1 b2) d).ob 3=some [.d x1,.d x2,.d x3]:=rfl
   have o5:(stV (s0W x1 x2 x3 wd z1 z2 z3 yd) (dvW x1 x2 x3 wd z1 z2 z3 yd b1 b2) d).ob 5=some [.d z1,.d z2,.d z3]:=rfl
   have t33:(stV (s0W x1 x2 x3 wd z1 z2 z3 yd) (dvW x1 x2 x3 wd z1 z2 z3 yd b1 b2) d).tm 33=.d (.bool false):=dvW_tm 7 (by decide) (hd _ (List.mem_cons_of_mem _ (List.mem_cons_of_mem _ (List.mem_cons_of_mem _ List.mem_cons_self))) rfl)
   have t37:(stV (s0W x1 x2 x3 wd z1 z2 z3 yd) (dvW x1 x2 x3 wd z1 z2 z3 yd b1 b2) d).tm 37=.d (.agg [z1,z2,z3]):=dvW_tm 11 (by decide) (hd _ List.mem_cons_self rfl)
   have t38:(stV (s0W x1 x2 x3 wd z1 z2 z3 yd) (dvW x1 x2 x3 wd z1 z2 z3 yd b1 b2) d).tm 38=.d (yd):=dvW_tm 12 (by decide) (hd _ (List.mem_cons_of_mem _ List.mem_cons_self) rfl)
   have hcl:(stV (s0W x1 x2 x3 wd z1 z2 z3 yd) (dvW x1 x2 x3 wd z1 z2 z3 yd b1 b2) d).call [] 39 []=stV (s0W x1 x2 x3 wd z1 z2 z3 yd) (dvW x1 x2 x3 wd z1 z2 z3 yd b1 b2) d:=stV_call (s0W_nm (by decide) (by decide)) dvW_nm rfl s0W_ob
   have hv:dvA (dvW x1 x2 x3 wd z1 z2 z3 yd b1 b2) 13=(39,.d (.bool b2)):=rfl
   rw [hv]
   generalize stV (s0W x1 x2 x3 wd z1 z2 z3 yd) (dvW x1 x2 x3 wd z1 z2 z3 yd b1 b2) d=S at *
   refine gstep1 (t:=33) rfl rfl (by decide) t33 ?_
   refine lcallG 39 rfl rfl rfl (by decide) hK2 (by simp (disch:=(first | omega | (simp;omega))) only [go_sem,w64,e3,e4,e5,e6,o3,o5,t33,t37,t38];(repeat (first | exact ASubs.nil | refine ASubs.cons (by first | exact ASub.d _ | exact ASub.dd (dle_wh _ _) | exact ASub.dd (dle_rowsV _) | exact ASub.dd (dle_rowsW _) | exact ASub.dd (dle_relW _ _) | exact ASub.bufd _ _ (dle_rowsV _) | exact ASub.nil _ | exact ASub.nn | exact ASub.buf _ _ _ _ | exact ASub.loc _ | exact ASub.ptr _ _ _ rfl | exact ASub.arr _ _ _ _ rfl | exact ASub.any _ | exact ASub.std rfl (dle_refl _)) ?_));done) ?_
   rintro r os ⟨rfl,rfl⟩
   exact ⟨by simp,by rw [hcl];rfl⟩
  refine vsteps_cons (fun d hd=>?_) ?_
  ·have e3:(stV (s0W x1 x2 x3 wd z1 z2 z3 yd) (dvW x1 x2 x3 wd z1 z2 z3 yd b1 b2) d).tm 3=.ptr 3 0:=stV_off (dvW_off (by decide))
   have e4:(stV (s0W x1 x2 x3 wd z1 z2 z3 yd) (dvW x1 x2 x3 wd z1 z2 z3 yd b1 b2) d).tm 4=.d wd:=stV_off (dvW_off (by decide))
   have e5:(stV (s0W x1 x2 x3 wd z1 z2 z3 yd) (dvW x1 x2 x3 wd z1 z2 z3 yd b1 b2) d).tm 5=.ptr 5 0:=stV_off (dvW_off (by decide))
   have e6:(stV (s0W x1 x2 x3 wd z1 z2 z3 yd) (dvW x1 x2 x3 wd z1 z2 z3 yd b1 b2) d).tm 6=.d yd:=stV_off (dvW_off (by decide))
   have o3:(stV (s0W x1 x2 x3 wd z1 z2 z3 yd) (dvW x1 x2 x3 wd z1 z2 z3 yd b1 b2) d).ob 3=some [.d x1,.d x2,.d x3]:=rfl
   have o5:(stV (s0W x1 x2 x3 wd z1 z2 z3 yd) (dvW x1 x2 x3 wd z1 z2 z3 yd b1 b2) d).ob 5=some [.d z1,.d z2,.d z3]:=rfl
   have t33:(stV (s0W x1 x2 x3 wd z1 z2 z3 yd) (dvW x1 x2 x3 wd z1 z2 z3 yd b1 b2) d).tm 33=.d (.bool false):=dvW_tm 7 (by decide) (hd _ (List.mem_cons_of_mem _ (List.mem_cons_of_mem _ List.mem_cons_self)) rfl)
   have t36:(stV (s0W x1 x2 x3 wd z1 z2 z3 yd) (dvW x1 x2 x3 wd z1 z2 z3 yd b1 b2) d).tm 36=.d (.bool b2):=dvW_tm 10 (by decide) (hd _ List.mem_cons_self rfl)
   have t39:(stV (s0W x1 x2 x3 wd z1 z2 z3 yd) (dvW x1 x2 x3 wd z1 z2 z3 yd b1 b2) d).tm 39=.d (.bool b2):=dvW_tm 13 (by decide) (hd _ (List.mem_cons_of_mem _ List.mem_cons_self) rfl)
   have hv:dvA (dvW x1 x2 x3 wd z1 z2 z3 yd b1 b2) 14=(40,.d (.bool false)):=rfl
   rw [hv]
   generalize stV (s0W x1 x2 x3 wd z1 z2 z3 yd) (dvW x1 x2 x3 wd z1 z2 z3 yd b1 b2) d=S at *
   refine gstep1 (t:=33) rfl rfl (by decide) t33 ?_
   have hne:(b2 != b2)=false:=by simp
   refine lstep_of tyT_ok ?_
   simp (disch:=(first | omega | (simp;omega))) only [go_sem,w64,e3,e4,e5,e6,o3,o5,t33,t36,t39,hne]
   exact rfl
  refine vsteps_cons (fun d hd=>?_) ?_
  ·have e3:(stV (s0W x1 x2 x3 wd z1 z2 z3 yd) (dvW x1 x2 x3 wd z1 z2 z3 yd b1 b2) d).tm 3=.ptr 3 0:=stV_off (dvW_off (by decide))
   have e4:(stV (s0W x1 x2 x3 wd z1 z2 z3 yd) (dvW x1 x2 x3 wd z1 z2 z3 yd b1 b2) d).tm 4=.d wd:=stV_off (dvW_off (by decide))
   have e5:(stV (s0W x1 x2 x3 wd z1 z2 z3 yd) (dvW x1 x2 x3 wd z1 z2 z3 yd b1 b2) d).tm 5=.ptr 5 0:=stV_off (dvW_off (by decide))
   have e6:(stV (s0W x1 x2 x3 wd z1 z2 z3 yd) (dvW x1 x2 x3 wd z1 z2 z3 yd b1 b2) d).tm 6=.d yd:=stV_off (dvW_off (by decide))
   have o3:(stV (s0W x1 x2 x3 wd z1 z2 z3 yd) (dvW x1 x2 x3 wd z1 z2 z3 yd b1 b2) d).ob 3=some [.d x1,.d x2,.d x3]:=rfl
   have o5:(stV (s0W x1 x2 x3 wd z1 z2 z3 yd) (dvW x1 x2 x3 wd z1 z2 z3 yd b1 b2) d).ob 5=some [.d z1,.d z2,.d z3]:=rfl
   have t33:(stV (s0W x1 x2 x3 wd z1 z2 z3 yd) (dvW x1 x2 x3 wd z1 z2 z3 yd b1 b2) d).tm 33=.d (.bool false):=dvW_tm 7 (by decide) (hd _ List.mem_cons_self rfl)
   have t40:(stV (s0W x1 x2 x3 wd z1 z2 z3 yd) (dvW x1 x2 x3 wd z1 z2 z3 yd b1 b2) d).tm 40=.d (.bool false):=dvW_tm 14 (by decide) (hd _ (List.mem_cons_of_mem _ List.mem_cons_self) rfl)
   have hv:dvA (dvW x1 x2 x3 wd z1 z2 z3 yd b1 b2) 15=(41,.d (.bool false)):=rfl
   rw [hv]
   generalize stV (s0W x1 x2 x3 wd z1 z2 z3 yd) (dvW x1 x2 x3 wd z1 z2 z3 yd b1 b2) d=S at *
   refine gstep0 rfl ?_
   refine lstep_of tyT_ok ?_
   simp (disch:=(first | omega | (simp;omega))) only [go_sem,w64,e3,e4,e5,e6,o3,o5,t33,t40]
  exact trivial
 case hen =>
  have e3:(stV (s0W x1 x2 x3 wd z1 z2 z3 yd) (dvW x1 x2 x3 wd z1 z2 z3 yd b1 b2) (fun j=>decide (j<16))).tm 3=.ptr 3 0:=stV_off (dvW_off (by decide))
  have e4:(stV (s0W x1 x2 x3 wd z1 z2 z3 yd) (dvW x1 x2 x3 wd z1 z2 z3 yd b1 b2) (fun j=>decide (j<16))).tm 4=.d wd:=stV_off (dvW_off (by decide))
  have e41:(stV (s0W x1 x2 x3 wd z1 z2 z3 yd) (dvW x1 x2 x3 wd z1 z2 z3 yd b1 b2) (fun j=>decide (j<16))).tm 41=.d (.bool false):=dvW_tm 15 (by decide) rfl
  have o3:(stV (s0W x1 x2 x3 wd z1 z2 z3 yd) (dvW x1 x2 x3 wd z1 z2 z3 yd b1 b2) (fun j=>decide (j<16))).ob 3=some [.d x1,.d x2,.d x3]:=rfl
  refine stp ?_
  refine awp_weak (s':=mkS [(3,.ptr 3 0),(4,.d wd),(41,.d (.bool false))] [(3,[.d x1,.d x2,.d x3])]) (sle_mk ⟨e3 ▸ .refl _,e4 ▸ .refl _,e41 ▸ .refl _,trivial⟩ ⟨⟨_,o3,ales_eq rfl⟩,trivial⟩) ?_
  repeat' (first | refine sq ?_ | refine stp ?_ | refine blk_o (by decide) ?_ | (apply cb;(focus (simp (disch:=(first | omega | (simp;omega))) only [go_sem,w64];try exact rfl));refine cok ?_) | (refine rgT ?_;intro K hK) | (refine dA ?_;intro K hK) | (with_reducible refine hK _ ?_;clear hK K) | (refine stq ?_;simp (disch:=(first | omega | (simp;omega))) only [go_sem,w64]) | refine as1 ?_ | fail)
  (first | refine callA (hC3) ?_ | refine callD (hC3) ?_ | refine callE (hC3) ?_ | refine callF (hC3) ?_ ?_)
  cases hb1:b1 with
  | false =>
   repeat' (first | refine sq ?_ | refine stp ?_ | refine blk_o (by decide) ?_ | (apply cb;(focus (simp (disch:=(first | omega | (simp;omega))) only [go_sem,w64];try exact rfl));refine cok ?_) | (refine rgT ?_;intro K hK) | (refine dA ?_;intro K hK) | (with_reducible refine hK _ ?_;clear hK K) | (refine stq ?_;simp (disch:=(first | omega | (simp;omega))) only [go_sem,w64]) | refine as1 ?_ | fail)
   (refine endA (r:=.d (.bool true)) ?_)
   exact ⟨rfl,rfl⟩
  | true =>
   obtain ⟨s,k1,k2,k3,k4⟩:=hwd hb1
   have hcm:=implCmpA M.val s
   rw [k1] at hs1
   rw [k3] at hs2
   generalize cmpQ M.val s=c at *
   repeat' (first | refine sq ?_ | refine stp ?_ | refine blk_o (by decide) ?_ | (apply cb;(focus (simp (disch:=(first | omega | (simp;omega))) only [go_sem,w64];try exact rfl));refine cok ?_) | (with_reducible refine hK _ ?_;clear hK K) | (refine stq ?_;simp (disch:=(first | omega | (simp;omega))) only [go_sem,w64]) | refine as1 ?_ | fail)
   refine awp_weak (s':=mkS [(3,.ptr 3 0),(4,.d wd)] [(3,[.d x1,.d x2,.d x3])]) (by exact sleA) ?_
   refine awp_regionY (o:=?oa) tyW_ok 1 ?ha1 ?ha2 ?ha3
   case ha1=>rfl
   case ha2=>rfl
   intro K K2 hK hK2
   repeat' (first | refine sq ?_ | refine stp ?_ | refine blk_o (by decide) ?_ | (apply cb;(focus (simp (disch:=(first | omega | (simp;omega))) only [go_sem,w64];try exact rfl));refine cok ?_) | (with_reducible refine hK _ ?_;clear hK K) | (refine stq ?_;simp (disch:=(first | omega | (simp;omega))) only [go_sem,w64]) | refine as1 ?_ | fail)
   refine lcallG 48 rfl rfl rfl (by decide) hmp (by (repeat (first | exact ASubs.nil | refine ASubs.cons (by first | exact ASub.d _ | exact ASub.dd (dle_wh _ _) | exact ASub.dd (dle_rowsV _) | exact ASub.dd (dle_rowsW _) | exact ASub.dd (dle_relW _ _) | exact ASub.bufd _ _ (dle_rowsV _) | exact ASub.nil _ | exact ASub.nn | exact ASub.buf _ _ _ _ | exact ASub.loc _ | exact ASub.ptr _ _ _ rfl | exact ASub.arr _ _ _ _ rfl | exact ASub.any _ | exact ASub.std rfl (dle_refl _)) ?_));done) ?_
   rintro r os ⟨rfl,rfl⟩
   refine ⟨by simp,hK2 _ ?_⟩
   clear hK2 K2
   repeat' (first | refine sq ?_ | refine stp ?_ | refine blk_o (by decide) ?_ | (apply cb;(focus (simp (disch:=(first | omega | (simp;omega))) only [go_sem,w64,ansB,ratDV];try exact rfl));refine cok ?_) | (with_reducible refine hK _ ?_;clear hK K) | (refine stq ?_;simp (disch:=(first | omega | (simp;omega))) only [go_sem,w64,ansB,ratDV]) | refine as1 ?_ | fail)
   refine awp_weak (s':=mkS [(4,.d wd),(7,.d (whQ M.pt)),(8,.ptr 8 0),(9,.d (.bool M.found))] [(8,[.d (.int M.val.num),.d (.int M.val.den)])]) (by exact sleA) ?_
   repeat' (first | refine sq ?_ | refine stp ?_ | refine blk_o (by decide) ?_ | (apply cb;(focus (simp (disch:=(first | omega | (simp;omega))) only [go_sem,w64];try exact rfl));refine cok ?_) | (refine rgT ?_;intro K hK) | (refine dA ?_;intro K hK) | (with_reducible refine hK _ ?_;clear hK K) | (refine stq ?_;simp (disch:=(first | omega | (simp;omega))) only [go_sem,w64]) | refine as1 ?_ | fail)
   (first | refine callA (hs1) ?_ | refine callD (hs1) ?_ | refine callE (hs1) ?_ | refine callF (hs1) ?_ ?_)
   repeat' (first | refine sq ?_ | refine stp ?_ | refine blk_o (by decide) ?_ | (apply cb;(focus (simp (disch:=(first | omega | (simp;omega))) only [go_sem,w64,ansQ,ratDV];try exact rfl));refine cok ?_) | (refine rgT ?_;intro K hK) | (refine dA ?_;intro K hK) | (with_reducible refine hK _ ?_;clear hK K) | (refine stq ?_;simp (disch:=(first | omega | (simp;omega))) only [go_sem,w64,ansQ,ratDV]) | refine as1 ?_ | fail)
   (first | refine callA (hs2) ?_ | refine callD (hs2) ?_ | refine callE (hs2) ?_ | refine callF (hs2) ?_ ?_)
   repeat' (first | refine sq ?_ | refine stp ?_ | refine blk_o (by decide) ?_ | (apply cb;(focus (simp (disch:=(first | omega | (simp;omega))) only [go_sem,w64,ansQ,ratDV];try exact rfl));refine cok ?_) | (with_reducible refine hK _ ?_;clear hK K) | (refine stq ?_;simp (disch:=(first | omega | (simp;omega))) only [go_sem,w64,ansQ,ratDV]) | refine as1 ?_ | fail)
   refine awp_weak (s':=mkS [(9,.d (.bool M.found)),(10,.ptr 10 0),(11,.d (.bool true)),(12,.ptr 12 0),(13,.d (.bool true))] [(10,[.d (.int s.num),.d (.int s.den)]),(12,[.d (.int M.val.num),.d (.int M.val.den)])]) (by exact sleA) ?_
   rw [k2]
   repeat' (first | refine sq ?_ | refine stp ?_ | refine blk_o (by decide) ?_ | (apply cb;(focus (simp (disch:=(first | omega | (simp;omega))) only [go_sem,w64,ratDV];try exact rfl));refine cok ?_) | (refine rgT ?_;intro K hK) | (refine dA ?_;intro K hK) | (with_reducible refine hK _ ?_;clear hK K) | (refine stq ?_;simp (disch:=(first | omega | (simp;omega))) only [go_sem,w64,ratDV]) | refine as1 ?_ | fail)
   (first | refine callA (hcm) ?_ | refine callD (hcm) ?_ | refine callE (hcm) ?_ | refine callF (hcm) ?_ ?_)
   repeat' (first | refine sq ?_ | refine stp ?_ | refine blk_o (by decide) ?_ | (apply cb;(focus (simp (disch:=(first | omega | (simp;omega))) only [go_sem,w64,k4];try exact rfl));refine cok ?_) | (refine rgT ?_;intro K hK) | (refine dA ?_;intro K hK) | (with_reducible refine hK _ ?_;clear hK K) | (refine stq ?_;simp (disch:=(first | omega | (simp;omega))) only [go_sem,w64,k4]) | refine as1 ?_ | fail)
   (refine endA (r:=.d (.bool true)) ?_)
   exact ⟨rfl,rfl⟩
theorem law_FnWeakDuality (a0:Option Addr) (n0:Nat) (c0:Nat) (xs0:List Int) (w:World) (hD0:BytesA false (0) w.heap.size w a0 n0 c0 xs0) (hG:GlobW w) :
 Calls Tryd.prog 3 #[.slice a0 n0 c0] w (Leaves w (.bool true)):=by
 have h:=lawWeakG xs0 (by rw [hD0.len];exact hD0.small)
 exact law_of_afnG (vs:=[.slice a0 n0 c0]) h hG (fun G hG=>⟨_,_,rfl,cvSl.2 (bytes_cx hD0 (fun b i _ hb=>by rw [hG];exact hb)),rfl⟩)
end Go.Proofs.YtkohkoiegmcghaaDoor
