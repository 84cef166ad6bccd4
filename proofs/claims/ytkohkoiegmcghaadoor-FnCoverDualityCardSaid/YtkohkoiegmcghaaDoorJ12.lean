/- Lemmas for the proof of FnCoverDuality, part 12 of 26: no condition of their own. -/
import Derived.Test.YtkohkoiegmcghaaDoorJ10
import Derived.Test.YtkohkoiegmcghaaDoorJ11
import Derived.Test.YtkohkoiegmcghaaDoorJ9
namespace Go.Proofs.YtkohkoiegmcghaaDoor
set_option linter.unusedSimpArgs false
set_option linter.unusedVariables false
open Go.RowKit
def Fits (q:Rat):Prop:=∃ a b:Int,(1≤b∧b≤1000000000)∧(-1000000000≤a∧a≤1000000000)∧q=(a:Rat) / (b:Rat)
theorem mulQ_fits {x y:RatD} (hx:vR x=true) (hy:vR y=true) (h:Fits (qv x*qv y)):(mulQ x y).2.2=true∧vR (rq (mulQ x y))=true∧qv (rq (mulQ x y))=qv x*qv y:=by
 obtain ⟨a,b,h1,h2,h3⟩:=h
 have:=mulQ_fit hx hy h1 h2 h3
 exact ⟨this,(fitMul _ _).1 this,(mulQ_ok this).2.2⟩
theorem subQ_fits {x y:RatD} (hx:vR x=true) (hy:vR y=true) (h:Fits (qv x - qv y)):(subQ x y).2.2=true∧vR (rq (subQ x y))=true∧qv (rq (subQ x y))=qv x - qv y:=by
 obtain ⟨a,b,h1,h2,h3⟩:=h
 have:=subQ_fit hx hy h1 h2 h3
 exact ⟨this,(fitSub _ _).1 this,(subQ_ok this).2.2⟩
theorem addQ_fits {x y:RatD} (hx:vR x=true) (hy:vR y=true) (h:Fits (qv x+qv y)):(addQ x y).2.2=true∧vR (rq (addQ x y))=true∧qv (rq (addQ x y))=qv x+qv y:=by
 obtain ⟨a,b,h1,h2,h3⟩:=h
 have:=addQ_fit hx hy h1 h2 h3
 exact ⟨this,(fitAdd _ _).1 this,(addQ_ok this).2.2⟩
theorem divQ_fits {x y:RatD} (hx:vR x=true) (hy:vR y=true) (h0:qv y ≠ 0) (h:Fits (qv x / qv y)):(divQ x y).2.2=true∧vR (rq (divQ x y))=true∧qv (rq (divQ x y))=qv x / qv y:=by
 obtain ⟨a,b,h1,h2,h3⟩:=h
 have hn:y.num ≠ 0:=fun e=>h0 (by simp only [qv,e];grind)
 have:=divQ_fit hx hy hn h1 h2 h3
 exact ⟨this,(fitDiv _ _).1 this,(divQ_ok this).2.2.2⟩
theorem qv_num0 {x:RatD} (hx:vR x=true):x.num=0↔qv x=0:=by
 have h:=castPos (vR_pos hx)
 constructor
 ·intro e;simp only [qv,e];grind
 ·intro e
  have h1:qv x*(x.den:Rat)=(x.num:Rat):=by simp only [qv];exact Rat.div_mul_cancel (by grind)
  rw [e,Rat.zero_mul] at h1
  exact_mod_cast h1.symm
theorem qx_setAll (r:List RatD) (i j:Nat) (x:RatD) (h:i<r.length):qx (r.set i x) j=if j=i then x else qx r j:=by
 simp only [qx,List.getD,List.getElem?_set]
 by_cases e:i=j
 ·subst e;simp [h]
 ·rw [if_neg e,if_neg (fun h=>e h.symm)]
theorem elTo_sem {f:RatD} {row piv:List RatD} {p N:Nat} (hf:vR f=true) (hrl:row.length=N) (hr:∀ i,i<N→vR (qx row i)=true) (hp:∀ i,i<N→vR (qx piv i)=true)
 (h:∀ k,p≤k→k<N→Fits (qv f*qv (qx piv k))∧Fits (qv (qx row k) - qv f*qv (qx piv k))):∀ j,p+j≤N→∃ r,elTo f row piv p j=some r∧r.length=N∧(∀ i,i<N→vR (qx r i)=true)∧∀ i,qv (qx r i)=if p≤i∧i<p+j then qv (qx row i) - qv f*qv (qx piv i) else qv (qx row i)
 | 0,_=>⟨row,rfl,hrl,hr,fun i=>by rw [if_neg (by omega)]⟩
 | j+1,hj=>by
  obtain ⟨r,e,h1,h2,h3⟩:=elTo_sem hf hrl hr hp h j (by omega)
  obtain ⟨k1,k2⟩:=h (p+j) (by omega) (by omega)
  obtain ⟨m1,m2,m3⟩:=mulQ_fits hf (hp (p+j) (by omega)) k1
  obtain ⟨s1,s2,s3⟩:=subQ_fits (hr (p+j) (by omega)) m2 (by rw [m3];exact k2)
  refine ⟨_,by simp only [elTo,e];exact if_pos ⟨m1,s1⟩,by rw [List.length_set];exact h1,fun i hi=>?_,fun i=>?_⟩
  ·rw [qx_setAll _ _ _ _ (by omega)]
   split
   ·exact s2
   ·exact h2 i hi
  ·rw [qx_setAll _ _ _ _ (by omega)]
   by_cases ei:i=p+j
   ·subst ei
    rw [if_pos rfl,if_pos (by omega),s3,m3]
   ·rw [if_neg ei,h3]
    by_cases c:p≤i∧i<p+j
    ·rw [if_pos c,if_pos (by omega)]
    ·rw [if_neg c,if_neg (by omega)]
def vM (R:List (List RatD)) (i k:Nat):Rat:=qv (qx (mx R i) k)
def ValM (n N:Nat) (R:List (List RatD)):Prop:=Shp n N R∧∀ i k,i<n→k<N→vR (qx (mx R i) k)=true
theorem stTo_sem {R:List (List RatD)} {p n N:Nat} (hR:ValM n N R) (hp:p<n) (hpN:p<N) (h0:vM R p p ≠ 0) (hz:∀ k,k<p→vM R p k=0)
 (h:∀ i k,i<n→i ≠ p→p≤k→k<N→Fits (vM R i p / vM R p p)∧Fits (vM R i p / vM R p p*vM R p k)∧Fits (vM R i k - vM R i p / vM R p p*vM R p k)) :
 ∀ j,j≤n→∃ R',stTo R p j=some R'∧ValM n N R'∧(∀ i,p=i∨j≤i→mx R' i=mx R i)∧∀ i k,i<j→i ≠ p→k<N→vM R' i k=vM R i k - vM R i p / vM R p p*vM R p k
 | 0,_=>⟨R,rfl,hR,fun _ _=>rfl,fun i k hi=>absurd hi (Nat.not_lt_zero _)⟩
 | j+1,hj=>by
  obtain ⟨R',e,h1,h2,h3⟩:=stTo_sem hR hp hpN h0 hz h j (by omega)
  have ej:mx R' j=mx R j:=h2 j (.inr (Nat.le_refl _))
  have ep:mx R' p=mx R p:=h2 p (.inl rfl)
  have vj:=hR.2 j p (by omega) hpN
  by_cases c:j=p∨(qx (mx R' j) p).num=0
  ·refine ⟨R',by simp only [stTo,e];exact if_pos c,h1,fun i hi=>h2 i (by omega),fun i k hi hip hk=>?_⟩
   by_cases eij:i=j
   ·subst eij
    rcases c with c | c
    ·exact absurd c hip
    ·rw [ej,qv_num0 vj] at c
     have:vM R i p=0:=c
     simp only [vM,ej]
     simp only [vM] at this
     rw [this];grind
   ·exact h3 i k (by omega) hip hk
  ·have c1:j ≠ p:=fun e=>c (.inl e)
   obtain ⟨d1,d2,d3⟩:=divQ_fits vj (hR.2 p p hp hpN) h0 (h j p (by omega) c1 (Nat.le_refl _) hpN).1
   obtain ⟨r,q1,q2,q3,q4⟩:=elTo_sem (f:=rq (divQ (qx (mx R j) p) (qx (mx R p) p))) (row:=mx R j) (piv:=mx R p) (p:=p) (N:=N) d2 (hR.1.2 j (by omega)) (fun i hi=>hR.2 j i (by omega) hi) (fun i hi=>hR.2 p i hp hi) (fun k hk hkN=>by
    rw [d3];exact (h j k (by omega) c1 hk hkN).2) (N - p) (by omega)
   have eel:elF (mx R' j) (mx R' p) p=some r:=by
    rw [ej,ep]
    unfold elF
    rw [if_pos d1,hR.1.2 j (by omega)]
    exact q1
   have hl:j<R'.length:=by rw [h1.1.1];omega
   refine ⟨R'.set j r,by simp only [stTo,e,if_neg c,eel],⟨⟨by rw [List.length_set];exact h1.1.1,fun i hi=>?_⟩,fun i k hi hk=>?_⟩,fun i hi=>?_,fun i k hi hip hk=>?_⟩
   ·rw [mx_set hl];split
    ·exact q2
    ·exact h1.1.2 i hi
   ·rw [mx_set hl];split
    ·exact q3 k hk
    ·exact h1.2 i k hi hk
   ·rw [mx_set hl,if_neg (by omega)];exact h2 i (by omega)
   ·simp only [vM,mx_set hl]
    by_cases eij:i=j
    ·subst eij
     rw [if_pos rfl,q4,d3]
     by_cases ck:p≤k
     ·rw [if_pos (by omega)]
     ·rw [if_neg (by omega)]
      have:=hz k (by omega)
      simp only [vM] at this
      rw [this];grind
    ·rw [if_neg eij]
     exact h3 i k (by omega) hip hk
theorem stF_sem {R:List (List RatD)} {p n N:Nat} (hR:ValM n N R) (hp:p<n) (hpN:p<N) (h0:vM R p p ≠ 0) (hz:∀ k,k<p→vM R p k=0)
 (h:∀ i k,i<n→i ≠ p→p≤k→k<N→Fits (vM R i p / vM R p p)∧Fits (vM R i p / vM R p p*vM R p k)∧Fits (vM R i k - vM R i p / vM R p p*vM R p k)) :
 ∃ R',stF R p=some R'∧ValM n N R'∧(∀ k,vM R' p k=vM R p k)∧∀ i k,i<n→i ≠ p→k<N→vM R' i k=vM R i k - vM R i p / vM R p p*vM R p k:=by
 obtain ⟨R',e,h1,h2,h3⟩:=stTo_sem hR hp hpN h0 hz h n (Nat.le_refl _)
 exact ⟨R',by unfold stF;rw [hR.1.1];exact e,h1,fun k=>by simp only [vM,h2 p (.inl rfl)],h3⟩
def swI (p k i:Nat):Nat:=if i=p then k else if i=k then p else i
theorem pvF_sem {R:List (List RatD)} {p n N:Nat} (hR:ValM n N R) (hpN:p<N) (h:∃ k,p≤k∧k<n∧vM R k p ≠ 0):∃ k,pvF R p n=some k∧p≤k∧k<n∧vM R k p ≠ 0:=by
 cases e:pvF R p n with
 | none =>
  exfalso
  obtain ⟨k,h1,h2,h3⟩:=h
  have:=List.find?_eq_none.1 e k (by rw [List.mem_range'_1];omega)
  exact h3 ((qv_num0 (hR.2 k p h2 hpN)).1 (by simpa using this))
 | some k =>
  have h1:=List.find?_some e
  have h2:=List.mem_of_find?_eq_some e
  rw [List.mem_range'_1] at h2
  refine ⟨k,rfl,by omega,by omega,fun h0=>?_⟩
  have:=(qv_num0 (hR.2 k p (by omega) hpN)).2 h0
  simp [this] at h1
theorem swap_sem {R:List (List RatD)} {p k n N:Nat} (hR:ValM n N R) (hp:p<n) (hk:k<n):ValM n N (swapL R p k [])∧∀ i j,vM (swapL R p k []) i j=vM R (swI p k i) j:=by
 have hl:R.length=n:=hR.1.1
 have e:∀ i,mx (swapL R p k []) i=mx R (swI p k i):=fun i=>swapL_at (by omega) (by omega) i
 have hlt:∀ i,i<n→swI p k i<n:=fun i hi=>by unfold swI;split;omega;split <;> omega
 refine ⟨⟨⟨by rw [swapL_len];exact hl,fun i hi=>by rw [e];exact hR.1.2 _ (hlt i hi)⟩,fun i j hi hj=>by rw [e];exact hR.2 _ j (hlt i hi) hj⟩,fun i j=>by simp only [vM,e]⟩
theorem swI_lt {p k n i:Nat} (hp:p<n) (hk:k<n) (hi:i<n):swI p k i<n:=by unfold swI;split;omega;split <;> omega
theorem swI_swI (p k i:Nat):swI p k (swI p k i)=i:=by
 unfold swI
 by_cases h1:i=p
 ·subst h1;simp only [if_true];by_cases h:k=i
  ·subst h;simp
  ·rw [if_neg h]
 ·rw [if_neg h1]
  by_cases h2:i=k
  ·subst h2;simp
  ·rw [if_neg h2,if_neg h1,if_neg h2]
structure Gs (n p:Nat) (M:Nat→Nat→Rat) (x:Nat→Rat):Prop where
 zero:∀ i k,i<n→k<p→i ≠ k→M i k=0
 piv:∀ k,k<p→M k k ≠ 0
 null:∀ d:Nat→Rat,(∀ i,i<n→sig (fun k=>M i k*d k) n=0)→∀ j,j<n→d j=0
 sol:∀ i,i<n→sig (fun k=>M i k*x k) n=M i n
theorem Gs.pivot {n p:Nat} {M:Nat→Nat→Rat} {x:Nat→Rat} (h:Gs n p M x) (hp:p<n):∃ k,p≤k∧k<n∧M k p ≠ 0:=by
 refine Classical.byContradiction fun hno=>?_
 have h0:∀ k,p≤k→k<n→M k p=0:=fun k h1 h2=>Classical.byContradiction fun hne=>hno ⟨k,h1,h2,hne⟩
 let d:Nat→Rat:=fun k=>if k<p then - M k p / M k k else if k=p then 1 else 0
 have hd:=h.null d (fun i hi=>by
  by_cases hip:i<p
  ·have e:sig (fun k=>M i k*d k) n=sig (fun k=>(if k=i then M i i else 0)*d k+(if k=p then M i p else 0)*d k) n:=sig_congr fun k hk=>by
    by_cases h1:k=i
    ·subst h1;rw [if_pos rfl,if_neg (by omega)];grind
    ·rw [if_neg h1]
     by_cases h2:k=p
     ·subst h2;rw [if_pos rfl];grind
     ·rw [if_neg h2]
      by_cases h3:k<p
      ·rw [h.zero i k hi h3 (fun e=>h1 e.symm)];grind
      ·simp only [d,if_neg h3,if_neg h2];grind
   rw [e,sig_add,sig_one d i (M i i) n (by omega),sig_one d p (M i p) n hp]
   have hne:=h.piv i hip
   simp only [d,if_pos hip,if_neg (Nat.lt_irrefl p),if_true]
   grind
  ·refine sig_const0 fun k hk=>?_
   by_cases h3:k<p
   ·rw [h.zero i k hi h3 (by omega)];grind
   ·by_cases h2:k=p
    ·subst h2;rw [h0 i (by omega) hi];grind
    ·simp only [d,if_neg h3,if_neg h2];grind) p hp
 simp only [d,if_neg (Nat.lt_irrefl p),if_true] at hd
 exact absurd hd (by decide)
theorem Gs.swap {n p k:Nat} {M M':Nat→Nat→Rat} {x:Nat→Rat} (h:Gs n p M x) (hp:p<n) (hpk:p≤k) (hk:k<n) (e:∀ i j,M' i j=M (swI p k i) j):Gs n p M' x:=by
 refine ⟨fun i j hi hj hij=>?_,fun j hj=>?_,fun d hd=>h.null d fun i hi=>?_,fun i hi=>?_⟩
 ·rw [e]
  refine h.zero _ _ (swI_lt hp hk hi) hj fun he=>?_
  unfold swI at he
  split at he
  ·omega
  ·split at he <;> omega
 ·rw [e,show swI p k j=j by unfold swI;rw [if_neg (by omega),if_neg (by omega)]];exact h.piv j hj
 ·have:=hd (swI p k i) (swI_lt hp hk hi)
  rw [← this]
  exact sig_congr fun j _=>by rw [e,swI_swI]
 ·rw [e,← h.sol _ (swI_lt hp hk hi)]
  exact sig_congr fun j _=>by rw [e]
theorem Gs.step {n p:Nat} {M M':Nat→Nat→Rat} {x:Nat→Rat} (h:Gs n p M x) (hp:p<n) (h0:M p p ≠ 0) (e1:∀ k,M' p k=M p k) (e2:∀ i k,i<n→i ≠ p→k<n+1→M' i k=M i k - M i p / M p p*M p k):Gs n (p+1) M' x:=by
 have hs:∀ d:Nat→Rat,∀ i,i<n→i ≠ p→sig (fun k=>M' i k*d k) n=sig (fun k=>M i k*d k) n - M i p / M p p*sig (fun k=>M p k*d k) n:=fun d i hi hip=>by
  rw [← sig_mul,← sig_sub]
  exact sig_congr fun k hk=>by rw [e2 i k hi hip (by omega)];grind
 have hs0:∀ d:Nat→Rat,sig (fun k=>M' p k*d k) n=sig (fun k=>M p k*d k) n:=fun d=>sig_congr fun k _=>by rw [e1]
 refine ⟨fun i k hi hk hik=>?_,fun k hk=>?_,fun d hd=>h.null d fun i hi=>?_,fun i hi=>?_⟩
 ·by_cases hip:i=p
  ·subst hip;rw [e1];exact h.zero i k hi (by omega) hik
  ·rw [e2 i k hi hip (by omega)]
   by_cases hkp:k=p
   ·subst hkp;grind
   ·rw [h.zero i k hi (by omega) hik,h.zero p k hp (by omega) (fun e=>hkp e.symm)];grind
 ·by_cases hkp:k=p
  ·subst hkp;rw [e1];exact h0
  ·rw [e2 k k (by omega) hkp (by omega),h.zero p k hp (by omega) (fun e=>hkp e.symm)]
   have:=h.piv k (by omega)
   grind
 ·by_cases hip:i=p
  ·subst hip;rw [← hs0];exact hd i hi
  ·have h1:=hd i hi
   have h2:=hd p hp
   rw [hs d i hi hip] at h1
   rw [hs0] at h2
   rw [h2] at h1
   grind
 ·by_cases hip:i=p
  ·subst hip;rw [hs0,e1];exact h.sol i hi
  ·rw [hs x i hi hip,e2 i n hi hip (by omega),h.sol i hi,h.sol p hp]
theorem gs_run {n:Nat} (P:Nat→(Nat→Nat→Rat)→Prop) {x:Nat→Rat} {R0:List (List RatD)} (hR0:ValM n (n+1) R0) (hP0:P 0 (vM R0)) (hG:Gs n 0 (vM R0) x)
 (hsw:∀ p k M M',P p M→p<n→p≤k→k<n→(∀ i j,M' i j=M (swI p k i) j)→P p M')
 (hst:∀ p M,P p M→p<n→Gs n p M x→M p p ≠ 0→(∀ i k,i<n→i ≠ p→p≤k→k<n+1→Fits (M i p / M p p)∧Fits (M i p / M p p*M p k)∧Fits (M i k - M i p / M p p*M p k)) ∧
  ∀ M',(∀ k,M' p k=M p k)→(∀ i k,i<n→i ≠ p→k<n+1→M' i k=M i k - M i p / M p p*M p k)→P (p+1) M') :
 ∀ p,p≤n→∃ R,gsF n R0 p=some R∧ValM n (n+1) R∧P p (vM R)∧Gs n p (vM R) x
 | 0,_=>⟨R0,rfl,hR0,hP0,hG⟩
 | p+1,hp=>by
  obtain ⟨R,e,h1,h2,h3⟩:=gs_run P hR0 hP0 hG hsw hst p (by omega)
  obtain ⟨k,ek,k1,k2,k3⟩:=pvF_sem h1 (show p<n+1 by omega) (h3.pivot (by omega))
  obtain ⟨s1,s2⟩:=swap_sem h1 (show p<n by omega) k2
  have g:=h3.swap (by omega) k1 k2 s2
  have gp:=hsw p k _ _ h2 (by omega) k1 k2 s2
  have g0:vM (swapL R p k []) p p ≠ 0:=by rw [s2,show swI p k p=k by simp [swI]];exact k3
  obtain ⟨f1,f2⟩:=hst p _ gp (by omega) g g0
  obtain ⟨R',e',r1,r2,r3⟩:=stF_sem s1 (show p<n by omega) (show p<n+1 by omega) g0 (fun k hk=>g.zero p k (by omega) hk (by omega)) f1
  exact ⟨R',by simp only [gsF,e,ek];exact e',r1,f2 _ r2 r3,g.step (by omega) g0 r2 r3⟩
theorem Gs.value {n:Nat} {M:Nat→Nat→Rat} {x:Nat→Rat} (h:Gs n n M x) {i:Nat} (hi:i<n):M i n / M i i=x i:=by
 have h1:=h.sol i hi
 have e:sig (fun k=>M i k*x k) n=sig (fun k=>(if k=i then M i i else 0)*x k) n:=sig_congr fun k hk=>by
  by_cases e:k=i
  ·subst e;rw [if_pos rfl]
  ·rw [if_neg e,h.zero i k hi hk (fun e2=>e e2.symm)]
 rw [e,sig_one x i (M i i) n hi] at h1
 have:=h.piv i hi
 rw [← h1]
 grind
theorem outTo_sem {n:Nat} {R:List (List RatD)} {x:Nat→Rat} (hR:ValM n (n+1) R) (h:Gs n n (vM R) x) (hf:∀ i,i<n→Fits (x i)):∀ p,p≤n→∃ l,outTo R n p=some l∧l.length=p∧∀ i,i<p→vR (qx l i)=true∧qv (qx l i)=x i
 | 0,_=>⟨[],rfl,rfl,fun i hi=>absurd hi (Nat.not_lt_zero _)⟩
 | p+1,hp=>by
  obtain ⟨l,e,h1,h2⟩:=outTo_sem hR h hf p (by omega)
  have hv:=h.value (show p<n by omega)
  obtain ⟨d1,d2,d3⟩:=divQ_fits (hR.2 p n (by omega) (by omega)) (hR.2 p p (by omega) (by omega)) (h.piv p (by omega)) (by
   have:qv (qx (mx R p) n) / qv (qx (mx R p) p)=x p:=hv
   rw [this];exact hf p (by omega))
  refine ⟨_,by simp only [outTo,e];exact if_pos d1,by rw [List.length_append,h1];rfl,fun i hi=>?_⟩
  by_cases ei:i=p
  ·subst ei
   have:qx (l ++ [rq (divQ (qx (mx R i) n) (qx (mx R i) i))]) i=rq (divQ (qx (mx R i) n) (qx (mx R i) i)):=by simp [qx,List.getD,← h1]
   rw [this]
   exact ⟨d2,by rw [d3];exact hv⟩
  ·have:qx (l ++ [rq (divQ (qx (mx R p) n) (qx (mx R p) p))]) i=qx l i:=by
    simp only [qx,List.getD]
    rw [List.getElem?_append_left (by omega)]
   rw [this]
   exact h2 i (by omega)
theorem solF_run {rows:List (List RatD)} {right:List RatD} {n:Nat} (P:Nat→(Nat→Nat→Rat)→Prop) {x:Nat→Rat} (hn:right.length=n) (hR0:ValM n (n+1) (augF rows right)) (hP0:P 0 (vM (augF rows right))) (hG:Gs n 0 (vM (augF rows right)) x)
 (hsw:∀ p k M M',P p M→p<n→p≤k→k<n→(∀ i j,M' i j=M (swI p k i) j)→P p M')
 (hst:∀ p M,P p M→p<n→Gs n p M x→M p p ≠ 0→(∀ i k,i<n→i ≠ p→p≤k→k<n+1→Fits (M i p / M p p)∧Fits (M i p / M p p*M p k)∧Fits (M i k - M i p / M p p*M p k)) ∧
  ∀ M',(∀ k,M' p k=M p k)→(∀ i k,i<n→i ≠ p→k<n+1→M' i k=M i k - M i p / M p p*M p k)→P (p+1) M')
 (hf:∀ M,P n M→Gs n n M x→∀ i,i<n→Fits (x i)):∃ l,solF rows right=some l∧l.length=n∧∀ i,i<n→vR (qx l i)=true∧qv (qx l i)=x i:=by
 obtain ⟨R,e,h1,h2,h3⟩:=gs_run P hR0 hP0 hG hsw hst n (Nat.le_refl _)
 obtain ⟨l,e2,h4,h5⟩:=outTo_sem h1 h3 (hf _ h2 h3) n (Nat.le_refl _)
 exact ⟨l,by unfold solF;rw [hn,e];exact e2,h4,h5⟩
theorem rdd {a b c d:Rat} (hb:b ≠ 0) (hc:c ≠ 0) (hd:d ≠ 0):(a / b) / (c / d)=(a*d) / (b*c):=by
 have h1:c / d ≠ 0:=by
  intro e
  have:=Rat.div_mul_cancel (a:=c) hd
  rw [e] at this;grind
 have h2:b*c ≠ 0:=fun e=>by rcases Rat.mul_eq_zero.1 e with e | e <;> contradiction
 have e1:(a*d) / (b*c)*(c / d)=a / b:=by
  have k1:=Rat.div_mul_cancel (a:=a*d) h2
  have k2:=Rat.div_mul_cancel (a:=c) hd
  have k3:=Rat.div_mul_cancel (a:=a) hb
  generalize (a*d) / (b*c)=X at *
  generalize c / d=Y at *
  generalize a / b=Z at *
  have:(b*d)*(X*Y)=(b*d)*Z:=by grind
  have h3:b*d ≠ 0:=fun e=>by rcases Rat.mul_eq_zero.1 e with e | e <;> contradiction
  grind
 rw [← e1]
 generalize (a*d) / (b*c)=X
 grind
theorem rdm {a b c d e:Rat} (hb:b ≠ 0) (hc:c ≠ 0) (hd:d ≠ 0):(a / b) / (c / d)*(e / d)=(a*e) / (b*c):=by
 rw [rdd hb hc hd]
 have h2:b*c ≠ 0:=fun e=>by rcases Rat.mul_eq_zero.1 e with e | e <;> contradiction
 generalize b*c=x at *
 grind
theorem rds {a b c d e f:Rat} (hb:b ≠ 0) (hc:c ≠ 0) (hd:d ≠ 0):f / b - (a / b) / (c / d)*(e / d)=(f*c - a*e) / (b*c):=by
 rw [rdm hb hc hd]
 have h2:b*c ≠ 0:=fun e=>by rcases Rat.mul_eq_zero.1 e with e | e <;> contradiction
 have k1:=Rat.div_mul_cancel (a:=a*e) h2
 have k2:=Rat.div_mul_cancel (a:=f*c - a*e) h2
 have k3:=Rat.div_mul_cancel (a:=f) hb
 generalize a*e / (b*c)=X at *
 generalize (f*c - a*e) / (b*c)=Y at *
 generalize f / b=Z at *
 have:(b*c)*(Z - X)=(b*c)*Y:=by grind
 grind
theorem fits_of {a b:Int} (hb:b ≠ 0) (h1:b.natAbs≤1000000000) (h2:a.natAbs≤1000000000):Fits ((a:Rat) / (b:Rat)):=by
 by_cases h:0<b
 ·exact ⟨a,b,by omega,by omega,rfl⟩
 ·refine ⟨-a,-b,by omega,by omega,?_⟩
  have:=castNe hb
  simp only [Rat.intCast_neg]
  grind
theorem abs_mul_le {a b:Int} {A B:Nat} (h1:a.natAbs≤A) (h2:b.natAbs≤B):(a*b).natAbs≤A*B:=by rw [Int.natAbs_mul];exact Nat.mul_le_mul h1 h2
theorem abs_sub_le {a b:Int} {A B:Nat} (h1:a.natAbs≤A) (h2:b.natAbs≤B):(a - b).natAbs≤A+B:=by omega
structure Row (n:Nat) (r:Nat→Rat) (w:Nat→Int) (d:Int) (N D:Nat):Prop where
 d0:d ≠ 0
 db:d.natAbs≤D
 wb:∀ k,k<n+1→(w k).natAbs≤N
 e:∀ k,k<n+1→r k=(w k:Rat) / (d:Rat)
theorem Row.mono {n:Nat} {r:Nat→Rat} {w:Nat→Int} {d:Int} {N D N' D':Nat} (h:Row n r w d N D) (h1:N≤N') (h2:D≤D'):Row n r w d N' D' :=
 ⟨h.d0,Nat.le_trans h.db h2,fun k hk=>Nat.le_trans (h.wb k hk) h1,h.e⟩
theorem Row.piv {n p:Nat} {r:Nat→Rat} {w:Nat→Int} {d:Int} {N D:Nat} (h:Row n r w d N D) (hp:p<n) (h0:r p ≠ 0):w p ≠ 0:=fun e=>h0 (by rw [h.e p (by omega),e];grind)
theorem row_step {n p:Nat} {r q:Nat→Rat} {w v:Nat→Int} {d c:Int} {N D N2 D2:Nat} (h:Row n r w d N D) (g:Row n q v c N2 D2) (hp:p<n) (h0:q p ≠ 0) (b1:2*(N*N2)≤1000000000) (b2:D*N2≤1000000000) (b3:N*D2≤1000000000) :
 (∀ k,k<n+1→Fits (r p / q p)∧Fits (r p / q p*q k)∧Fits (r k - r p / q p*q k))∧∀ r':Nat→Rat,(∀ k,k<n+1→r' k=r k - r p / q p*q k)→Row n r' (fun k=>w k*v p - w p*v k) (d*v p) (2*(N*N2)) (D*N2):=by
 have hv:=g.piv hp h0
 have nv:=castNe hv
 have nd:=castNe h.d0
 have nc:=castNe g.d0
 have hd:d*v p ≠ 0:=by
  intro e
  rcases Int.mul_eq_zero.1 e with e | e
  ·exact h.d0 e
  ·exact hv e
 have e2:∀ k,k<n+1→r k - r p / q p*q k=((w k*v p - w p*v k:Int):Rat) / ((d*v p:Int):Rat):=fun k hk=>by
  rw [h.e k hk,h.e p (by omega),g.e p (by omega),g.e k hk,rds nd nv nc]
  simp only [Rat.intCast_mul,Rat.intCast_sub]
 refine ⟨fun k hk=>⟨?_,?_,?_⟩,fun r' hr'=>⟨hd,?_,fun k hk=>?_,fun k hk=>?_⟩⟩
 ·have e:r p / q p=((w p*c:Int):Rat) / ((d*v p:Int):Rat):=by
   rw [h.e p (by omega),g.e p (by omega),rdd nd nv nc]
   simp only [Rat.intCast_mul]
  rw [e]
  exact fits_of hd (Nat.le_trans (abs_mul_le h.db (g.wb p (by omega))) b2) (Nat.le_trans (abs_mul_le (h.wb p (by omega)) g.db) b3)
 ·have e:r p / q p*q k=((w p*v k:Int):Rat) / ((d*v p:Int):Rat):=by
   rw [h.e p (by omega),g.e p (by omega),g.e k hk,rdm nd nv nc]
   simp only [Rat.intCast_mul]
  rw [e]
  exact fits_of hd (Nat.le_trans (abs_mul_le h.db (g.wb p (by omega))) b2) (Nat.le_trans (abs_mul_le (h.wb p (by omega)) (g.wb k hk)) (by omega))
 ·rw [e2 k hk]
  exact fits_of hd (Nat.le_trans (abs_mul_le h.db (g.wb p (by omega))) b2) (by
   have a1:=abs_mul_le (h.wb k hk) (g.wb p (by omega))
   have a2:=abs_mul_le (h.wb p (by omega)) (g.wb k hk)
   have:=abs_sub_le a1 a2
   omega)
 ·exact abs_mul_le h.db (g.wb p (by omega))
 ·have a1:=abs_mul_le (h.wb k hk) (g.wb p (by omega))
  have a2:=abs_mul_le (h.wb p (by omega)) (g.wb k hk)
  have:=abs_sub_le a1 a2
  show (w k*v p - w p*v k).natAbs≤_
  omega
 ·rw [hr' k hk];exact e2 k hk
def Crude (n N D:Nat) (M:Nat→Nat→Rat):Prop:=∀ i,i<n→∃ w d,Row n (M i) w d N D
theorem Crude.swap {n N D p k:Nat} {M M':Nat→Nat→Rat} (h:Crude n N D M) (hp:p<n) (hk:k<n) (e:∀ i j,M' i j=M (swI p k i) j):Crude n N D M':=fun i hi=>by
 obtain ⟨w,d,h1,h2,h3,h4⟩:=h _ (swI_lt hp hk hi)
 exact ⟨w,d,h1,h2,h3,fun k hk=>by rw [e];exact h4 k hk⟩
theorem Crude.step {n N D p:Nat} {M:Nat→Nat→Rat} (h:Crude n N D M) (hp:p<n) (h0:M p p ≠ 0) (b1:2*(N*N)≤1000000000) (b2:D*N≤1000000000) (bN:1≤N) :
 (∀ i k,i<n→i ≠ p→p≤k→k<n+1→Fits (M i p / M p p)∧Fits (M i p / M p p*M p k)∧Fits (M i k - M i p / M p p*M p k)) ∧
  ∀ M':Nat→Nat→Rat,(∀ k,M' p k=M p k)→(∀ i k,i<n→i ≠ p→k<n+1→M' i k=M i k - M i p / M p p*M p k)→Crude n (2*(N*N)) (D*N) M':=by
 obtain ⟨v,c,g⟩:=h p hp
 refine ⟨fun i k hi hip hpk hk=>?_,fun M' e1 e2 i hi=>?_⟩
 ·obtain ⟨w,d,f⟩:=h i hi
  exact (row_step f g hp h0 b1 b2 (by rw [Nat.mul_comm];exact b2)).1 k hk
 ·by_cases hip:i=p
  ·subst hip
   have m1:=Nat.mul_le_mul_left N bN
   have m2:=Nat.mul_le_mul_left D bN
   exact ⟨v,c,g.d0,Nat.le_trans g.db (by omega),fun k hk=>Nat.le_trans (g.wb k hk) (by omega),fun k hk=>by rw [e1];exact g.e k hk⟩
  ·obtain ⟨w,d,f⟩:=h i hi
   exact ⟨_,_,(row_step f g hp h0 b1 b2 (by rw [Nat.mul_comm];exact b2)).2 (M' i) fun k hk=>e2 i k hi hip hk⟩
theorem det3_ne {a:Nat→Nat→Rat} (h:∀ d0 d1 d2:Rat,(∀ i,i<3→a i 0*d0+a i 1*d1+a i 2*d2=0)→d0=0∧d1=0∧d2=0) :
 a 0 0*(a 1 1*a 2 2 - a 1 2*a 2 1) - a 0 1*(a 1 0*a 2 2 - a 1 2*a 2 0)+a 0 2*(a 1 0*a 2 1 - a 1 1*a 2 0) ≠ 0:=by
 intro e
 have row:∀ d0 d1 d2:Rat,a 0 0*d0+a 0 1*d1+a 0 2*d2=0→a 1 0*d0+a 1 1*d1+a 1 2*d2=0→a 2 0*d0+a 2 1*d1+a 2 2*d2=0→d0=0∧d1=0∧d2=0:=fun d0 d1 d2 h0 h1 h2=>h d0 d1 d2 fun i hi=>by
  rcases i with _ | _ | _ | i
  ·exact h0
  ·exact h1
  ·exact h2
  ·omega
 generalize a 0 0=a00 at *;generalize a 0 1=a01 at *;generalize a 0 2=a02 at *
 generalize a 1 0=a10 at *;generalize a 1 1=a11 at *;generalize a 1 2=a12 at *
 generalize a 2 0=a20 at *;generalize a 2 1=a21 at *;generalize a 2 2=a22 at *
 obtain ⟨p00,p01,p02⟩:=row (a11*a22 - a12*a21) (- (a10*a22 - a12*a20)) (a10*a21 - a11*a20) (by grind) (by grind) (by grind)
 obtain ⟨p10,p11,p12⟩:=row (- (a01*a22 - a02*a21)) (a00*a22 - a02*a20) (- (a00*a21 - a01*a20)) (by grind) (by grind) (by grind)
 obtain ⟨p20,p21,p22⟩:=row (a01*a12 - a02*a11) (- (a00*a12 - a02*a10)) (a00*a11 - a01*a10) (by grind) (by grind) (by grind)
 obtain ⟨q0,q1,_⟩:=row a01 (-a00) 0 (by grind) (by grind) (by grind)
 obtain ⟨q2,q3,_⟩:=row a11 (-a10) 0 (by grind) (by grind) (by grind)
 obtain ⟨q4,q5,_⟩:=row a21 (-a20) 0 (by grind) (by grind) (by grind)
 obtain ⟨r0,_⟩:=row 1 0 0 (by grind) (by grind) (by grind)
 exact absurd r0 (by decide)
theorem cramer3 {a:Nat→Nat→Rat} {x0 x1 x2:Rat} (h:∀ i,i<3→a i 0*x0+a i 1*x1+a i 2*x2=a i 3) :
 (a 0 0*(a 1 1*a 2 2 - a 1 2*a 2 1) - a 0 1*(a 1 0*a 2 2 - a 1 2*a 2 0)+a 0 2*(a 1 0*a 2 1 - a 1 1*a 2 0))*x0=a 0 3*(a 1 1*a 2 2 - a 1 2*a 2 1) - a 0 1*(a 1 3*a 2 2 - a 1 2*a 2 3)+a 0 2*(a 1 3*a 2 1 - a 1 1*a 2 3)∧(a 0 0*(a 1 1*a 2 2 - a 1 2*a 2 1) - a 0 1*(a 1 0*a 2 2 - a 1 2*a 2 0)+a 0 2*(a 1 0*a 2 1 - a 1 1*a 2 0))*x1=a 0 0*(a 1 3*a 2 2 - a 1 2*a 2 3) - a 0 3*(a 1 0*a 2 2 - a 1 2*a 2 0)+a 0 2*(a 1 0*a 2 3 - a 1 3*a 2 0)∧(a 0 0*(a 1 1*a 2 2 - a 1 2*a 2 1) - a 0 1*(a 1 0*a 2 2 - a 1 2*a 2 0)+a 0 2*(a 1 0*a 2 1 - a 1 1*a 2 0))*x2=a 0 0*(a 1 1*a 2 3 - a 1 3*a 2 1) - a 0 1*(a 1 0*a 2 3 - a 1 3*a 2 0)+a 0 3*(a 1 0*a 2 1 - a 1 1*a 2 0):=by
 have h0:=h 0 (by omega)
 have h1:=h 1 (by omega)
 have h2:=h 2 (by omega)
 rw [← h0,← h1,← h2]
 generalize a 0 0=a00;generalize a 0 1=a01;generalize a 0 2=a02
 generalize a 1 0=a10;generalize a 1 1=a11;generalize a 1 2=a12
 generalize a 2 0=a20;generalize a 2 1=a21;generalize a 2 2=a22
 refine ⟨by grind,by grind,by grind⟩
def d3 (p0 p1 p2 q0 q1 q2 r0 r1 r2:Int):Int:=p0*(q1*r2 - q2*r1) - p1*(q0*r2 - q2*r0)+p2*(q0*r1 - q1*r0)
theorem d3_le {p0 p1 p2 q0 q1 q2 r0 r1 r2:Int} {B:Nat} (a0:p0.natAbs≤B) (a1:p1.natAbs≤B) (a2:p2.natAbs≤B) (b0:q0.natAbs≤B) (b1:q1.natAbs≤B) (b2:q2.natAbs≤B) (c0:r0.natAbs≤B) (c1:r1.natAbs≤B) (c2:r2.natAbs≤B) :
 (d3 p0 p1 p2 q0 q1 q2 r0 r1 r2).natAbs≤3*(B*(B*B+B*B)):=by
 have k0:=abs_mul_le a0 (abs_sub_le (abs_mul_le b1 c2) (abs_mul_le b2 c1))
 have k1:=abs_mul_le a1 (abs_sub_le (abs_mul_le b0 c2) (abs_mul_le b2 c0))
 have k2:=abs_mul_le a2 (abs_sub_le (abs_mul_le b0 c1) (abs_mul_le b1 c0))
 unfold d3
 omega
theorem d3_cast (p0 p1 p2 q0 q1 q2 r0 r1 r2:Int):((d3 p0 p1 p2 q0 q1 q2 r0 r1 r2:Int):Rat)=(p0:Rat)*(q1*r2 - q2*r1) - p1*(q0*r2 - q2*r0)+p2*(q0*r1 - q1*r0):=by
 simp only [d3,Rat.intCast_add,Rat.intCast_sub,Rat.intCast_mul]
theorem com3 {a:Nat→Nat→Int} {x:Nat→Rat} {B:Nat} (hB:∀ i k,i<3→k<4→(a i k).natAbs≤B) (hnull:∀ d0 d1 d2:Rat,(∀ i,i<3→(a i 0:Rat)*d0+(a i 1:Rat)*d1+(a i 2:Rat)*d2=0)→d0=0∧d1=0∧d2=0)
 (hsol:∀ i,i<3→(a i 0:Rat)*x 0+(a i 1:Rat)*x 1+(a i 2:Rat)*x 2=(a i 3:Rat)):∃ (D:Int) (X:Nat→Int),D ≠ 0∧D.natAbs≤3*(B*(B*B+B*B))∧∀ j,j<3→(X j).natAbs≤3*(B*(B*B+B*B))∧x j=(X j:Rat) / (D:Rat):=by
 have hd:=det3_ne (a:=fun i k=>(a i k:Rat)) hnull
 obtain ⟨c0,c1,c2⟩:=cramer3 (a:=fun i k=>(a i k:Rat)) hsol
 rw [← d3_cast] at hd c0 c1 c2
 rw [← d3_cast] at c0 c1 c2
 have b:∀ i k,i<3→k<4→(a i k).natAbs≤B:=hB
 refine ⟨d3 (a 0 0) (a 0 1) (a 0 2) (a 1 0) (a 1 1) (a 1 2) (a 2 0) (a 2 1) (a 2 2),fun j=>if j=0 then d3 (a 0 3) (a 0 1) (a 0 2) (a 1 3) (a 1 1) (a 1 2) (a 2 3) (a 2 1) (a 2 2) else if j=1 then d3 (a 0 0) (a 0 3) (a 0 2) (a 1 0) (a 1 3) (a 1 2) (a 2 0) (a 2 3) (a 2 2) else d3 (a 0 0) (a 0 1) (a 0 3) (a 1 0) (a 1 1) (a 1 3) (a 2 0) (a 2 1) (a 2 3),fun e=>hd (by rw [e];rfl),?_,fun j hj=>?_⟩
 ·apply d3_le <;> exact b _ _ (by omega) (by omega)
 ·rcases j with _ | _ | _ | j
  ·refine ⟨?_,?_⟩
   ·show (d3 _ _ _ _ _ _ _ _ _).natAbs≤_
    apply d3_le <;> exact b _ _ (by omega) (by omega)
   ·show x 0=((d3 (a 0 3) (a 0 1) (a 0 2) (a 1 3) (a 1 1) (a 1 2) (a 2 3) (a 2 1) (a 2 2):Int):Rat) / _
    rw [← c0];grind
  ·refine ⟨?_,?_⟩
   ·show (d3 _ _ _ _ _ _ _ _ _).natAbs≤_
    apply d3_le <;> exact b _ _ (by omega) (by omega)
   ·show x 1=((d3 (a 0 0) (a 0 3) (a 0 2) (a 1 0) (a 1 3) (a 1 2) (a 2 0) (a 2 3) (a 2 2):Int):Rat) / _
    rw [← c1];grind
  ·refine ⟨?_,?_⟩
   ·show (d3 _ _ _ _ _ _ _ _ _).natAbs≤_
    apply d3_le <;> exact b _ _ (by omega) (by omega)
   ·show x 2=((d3 (a 0 0) (a 0 1) (a 0 3) (a 1 0) (a 1 1) (a 1 3) (a 2 0) (a 2 1) (a 2 3):Int):Rat) / _
    rw [← c2];grind
  ·omega
theorem quot_conv {a b c d:Int} (hb:b ≠ 0) (hd:d ≠ 0) (e:a*d=c*b):(a:Rat) / (b:Rat)=(c:Rat) / (d:Rat):=by
 have h1:=castNe hb
 have h2:=castNe hd
 have e':(a:Rat)*(d:Rat)=(c:Rat)*(b:Rat):=by rw [← Rat.intCast_mul,← Rat.intCast_mul,e]
 have k1:=Rat.div_mul_cancel (a:=(a:Rat)) h1
 have k2:=Rat.div_mul_cancel (a:=(c:Rat)) h2
 generalize (a:Rat) / (b:Rat)=X at *
 generalize (c:Rat) / (d:Rat)=Y at *
 have h3:(b:Rat)*(d:Rat) ≠ 0:=fun e=>by rcases Rat.mul_eq_zero.1 e with e | e <;> contradiction
 have:((b:Rat)*(d:Rat))*X=((b:Rat)*(d:Rat))*Y:=by grind
 grind
theorem mul_ne {a b:Int} (h1:a ≠ 0) (h2:b ≠ 0):a*b ≠ 0:=fun e=>by rcases Int.mul_eq_zero.1 e with e | e <;> contradiction
def Pl:Nat→(Nat→Nat→Rat)→Prop
 | 0,M=>∃ (z:Nat→Nat→Int) (d:Nat→Int),∀ i,i<3→Row 3 (M i) (z i) (d i) 18 6
 | 1,M=>∃ (z:Nat→Nat→Int) (d:Nat→Int),(∀ i,i<3→d i ≠ 0∧(d i).natAbs≤6∧∀ k,k<4→(z i k).natAbs≤18)∧z 0 0 ≠ 0∧Row 3 (M 0) (z 0) (d 0) 18 6∧∀ i,1≤i→i<3→Row 3 (M i) (fun k=>z i k*z 0 0 - z i 0*z 0 k) (d i*z 0 0) 648 108
 | 2,M=>(∃ w d,Row 3 (M 0) w d 11664 3888)∧(∃ w d,Row 3 (M 1) w d 648 108)∧∃ w d,Row 3 (M 2) w d 34992 3888
 | _,_=>True
theorem Row.congr {n:Nat} {r r':Nat→Rat} {w:Nat→Int} {d:Int} {N D:Nat} (h:Row n r w d N D) (e:∀ k,r' k=r k):Row n r' w d N D:=⟨h.d0,h.db,h.wb,fun k hk=>by rw [e];exact h.e k hk⟩
def padM (n:Nat) (z:Nat→Nat→Int) (i k:Nat):Int:=if i<n then (if k<n then z i k else if k=3 then z i n else 0) else if i=k then 1 else 0
theorem pad_sum {n:Nat} (hn:n≤3) (z:Nat→Nat→Int) (d:Nat→Rat) {i:Nat} (hi:i<n):(padM n z i 0:Rat)*d 0+(padM n z i 1:Rat)*d 1+(padM n z i 2:Rat)*d 2=sig (fun k=>(z i k:Rat)*d k) n:=by
 rcases n with _ | _ | _ | _ | n
 ·omega
 ·simp only [padM,hi,if_true,sig];simp;try grind
 ·simp only [padM,hi,if_true,sig];simp;try grind
 ·simp only [padM,hi,if_true,sig];simp;try grind
 ·omega
theorem com_pad {n:Nat} (hn:n≤3) {z:Nat→Nat→Int} {x:Nat→Rat} {B:Nat} (hB1:1≤B) (hB:∀ i k,i<n→k<n+1→(z i k).natAbs≤B) (hnull:∀ d:Nat→Rat,(∀ i,i<n→sig (fun k=>(z i k:Rat)*d k) n=0)→∀ j,j<n→d j=0)
 (hsol:∀ i,i<n→sig (fun k=>(z i k:Rat)*x k) n=(z i n:Rat)):∃ (D:Int) (X:Nat→Int),D ≠ 0∧D.natAbs≤3*(B*(B*B+B*B))∧∀ j,j<n→(X j).natAbs≤3*(B*(B*B+B*B))∧x j=(X j:Rat) / (D:Rat):=by
 obtain ⟨D,X,h1,h2,h3⟩:=com3 (a:=padM n z) (x:=fun j=>if j<n then x j else 0) (B:=B) (fun i k hi hk=>by
  unfold padM
  split
  ·rename_i hin
   split
   ·exact hB i k hin (by omega)
   ·split
    ·exact hB i n hin (by omega)
    ·simp
  ·split <;> simp
   omega)
  (fun d0 d1 d2 h=>by
   let d:Nat→Rat:=fun j=>if j=0 then d0 else if j=1 then d1 else d2
   have hlo:=hnull d (fun i hi=>by rw [← pad_sum hn z d hi];exact h i (by omega))
   have hhi:∀ j,n≤j→j<3→d j=0:=fun j h1 h2=>by
    have:=h j h2
    rcases j with _ | _ | _ | j
    ·simp only [padM,show ¬ 0<n by omega,if_false] at this
     simp at this
     show d0=0;grind
    ·simp only [padM,show ¬ 1<n by omega,if_false] at this
     simp at this
     show d1=0;grind
    ·simp only [padM,show ¬ 2<n by omega,if_false] at this
     simp at this
     show d2=0;grind
    ·omega
   have all:∀ j,j<3→d j=0:=fun j hj=>by
    by_cases c:j<n
    ·exact hlo j c
    ·exact hhi j (by omega) hj
   exact ⟨all 0 (by omega),all 1 (by omega),all 2 (by omega)⟩)
  (fun i hi=>by
   by_cases c:i<n
   ·have:=pad_sum hn z (fun j=>if j<n then x j else 0) c
    rw [this]
    have e:sig (fun k=>(z i k:Rat)*(if k<n then x k else 0)) n=sig (fun k=>(z i k:Rat)*x k) n:=sig_congr fun k hk=>by rw [if_pos hk]
    rw [e,hsol i c]
    simp only [padM,c,if_true,show ¬ 3<n by omega,if_false]
   ·rcases i with _ | _ | _ | i
    ·simp only [padM,c,if_false];simp;try grind
    ·simp only [padM,c,if_false];simp;try grind
    ·simp only [padM,c,if_false];simp;try grind
    ·omega)
 exact ⟨D,X,h1,h2,fun j hj=>⟨(h3 j (by omega)).1,by
  have:=(h3 j (by omega)).2
  simpa only [hj,if_true] using this⟩⟩
end Go.Proofs.YtkohkoiegmcghaaDoor
namespace Go.Proofs.YtkohkoiegmcghaaDoor
set_option linter.unusedSimpArgs false
set_option linter.unusedVariables false
attribute [local go_sem ↓] reduceIte
attribute [local go_sem] Nat.reduceEqDiff Nat.reduceLT Nat.reduceAdd Nat.reduceLeDiff Nat.reduceMul Nat.reduceBEq Nat.reduceSub reduceCtorEq Int.reduceLE Int.reduceNeg Int.reduceLT
open Go.RowKit
theorem eqT2 (x y:Int):eqTOK 33 [.int x,.int y]=true:=by kernel_rfl
set_option maxHeartbeats 1000000 in
theorem implEqA (a b:List RatD) (ha:a.length≤1048576) (hb:b.length≤1048576):AFn 87 [.d (ratsD a),.d (ratsD b)] [] (fun r os=>r=.d (.bool (eqQ a b))∧os=[]):=by
 refine afn_of (rv:=[.tmp 4]) tyT_ok Tryd.func87 rfl (by decide +kernel) Tryd.ntmps87 rfl (by simp) ?_
 by_cases hl:((a.length:Nat):Int)=(b.length:Nat)
 ·have z1:decide (((a.length:Nat):Int)=(b.length:Nat))=true:=decide_eq_true hl
  repeat' (first | refine sq ?_ | refine stp ?_ | refine blk_o (by decide) ?_ | (apply cb;(focus (simp (disch:=(first | omega | (simp;omega))) only [go_sem,w64,ratsD,z1];try exact rfl));refine cok ?_) | (refine rgT ?_;intro K hK) | (refine dA ?_;intro K hK) | (with_reducible refine hK _ ?_;clear hK K) | (refine stq ?_;simp (disch:=(first | omega | (simp;omega))) only [go_sem,w64,ratsD,z1]) | refine as1 ?_ | fail)
  refine awp_loopw (fun mm s=>∃ k,mm=a.length - k∧k≤a.length∧(∀ j,j<k→sameQ (qx a j) (qx b j)=true)∧s=mkS [(0,.d (ratsD a)),(1,.d (ratsD b)),(12,.d (.int (a.length:Nat))),(13,.d (.int (k:Nat)))] []) ?_ ?_
  ·refine ⟨_,_,?_,0,rfl,Nat.zero_le _,fun j h=>absurd h (Nat.not_lt_zero _),rfl⟩
   (refine sle_mk ?_ ?_ <;> simp (disch:=(first | omega | (simp;omega))) only [go_sem,w64,ratsD] <;> exact leafs)
  ·rintro mm s ⟨k,rfl,hk,hd,rfl⟩
   repeat' (first | refine sq ?_ | refine stp ?_ | refine blk_o (by decide) ?_ | (apply cb;(focus (simp (disch:=(first | omega | (simp;omega))) only [go_sem,w64,ratsD];try exact rfl));refine cok ?_) | (refine rgT ?_;intro K hK) | (refine dA ?_;intro K hK) | (with_reducible refine hK _ ?_;clear hK K) | (refine stq ?_;simp (disch:=(first | omega | (simp;omega))) only [go_sem,w64,ratsD]) | refine as1 ?_ | fail)
   refine awp_if (p:=(k:Int)<(a.length:Nat)) (by simp (disch:=(first | omega | (simp;omega))) only [go_sem,w64]) ?_ ?_ <;> intro hc
   ·have hk2:k<a.length:=by omega
    have hk3:k<b.length:=by omega
    have g1:(a.map ratDV).getD k (.bool false)=ratDV (qx a k):=getDq hk2
    have g2:(b.map ratDV).getD k (.bool false)=ratDV (qx b k):=getDq hk3
    have hs:sameQ (qx a k) (qx b k)=(decide ((qx a k).num=(qx b k).num) && decide ((qx a k).den=(qx b k).den)):=rfl
    by_cases e1:(qx a k).num=(qx b k).num
    ·by_cases e2:(qx a k).den=(qx b k).den
     ·have y1:decide ((qx a k).num=(qx b k).num)=true:=decide_eq_true e1
      have y2:decide ((qx a k).den=(qx b k).den)=true:=decide_eq_true e2
      repeat' (first | refine sq ?_ | refine stp ?_ | refine blk_o (by decide) ?_ | (apply cb;(focus (simp (disch:=(first | omega | (simp;omega))) only [go_sem,w64,ratsD,g1,g2,ratDV,y1,y2,eqT2,and_self,true_and];try exact rfl));refine cok ?_) | (refine rgT ?_;intro K hK) | (refine dA ?_;intro K hK) | (with_reducible refine hK _ ?_;clear hK K) | (refine stq ?_;simp (disch:=(first | omega | (simp;omega))) only [go_sem,w64,ratsD,g1,g2,ratDV,y1,y2,eqT2,and_self,true_and]) | refine as1 ?_ | fail)
      refine ⟨a.length - (k+1),_,by omega,?_,k+1,rfl,by omega,fun j hj=>?_,rfl⟩
      ·(refine sle_mk ?_ ?_ <;> simp (disch:=(first | omega | (simp;omega))) only [go_sem,w64,ratsD] <;> exact leafs)
      ·by_cases e:j=k
       ·subst e;rw [hs,y1,y2];rfl
       ·exact hd j (by omega)
     ·have y1:decide ((qx a k).num=(qx b k).num)=true:=decide_eq_true e1
      have y2:decide ((qx a k).den=(qx b k).den)=false:=decide_eq_false e2
      repeat' (first | refine sq ?_ | refine stp ?_ | refine blk_o (by decide) ?_ | (apply cb;(focus (simp (disch:=(first | omega | (simp;omega))) only [go_sem,w64,ratsD,g1,g2,ratDV,y1,y2,eqT2,and_self,true_and];try exact rfl));refine cok ?_) | (refine rgT ?_;intro K hK) | (refine dA ?_;intro K hK) | (with_reducible refine hK _ ?_;clear hK K) | (refine stq ?_;simp (disch:=(first | omega | (simp;omega))) only [go_sem,w64,ratsD,g1,g2,ratDV,y1,y2,eqT2,and_self,true_and]) | refine as1 ?_ | fail)
      (refine endA (r:=.d (.bool false)) ?_)
      exact ⟨by rw [eqQ_no hk2 (by rw [hs,y1,y2];rfl)],rfl⟩
    ·have y1:decide ((qx a k).num=(qx b k).num)=false:=decide_eq_false e1
     repeat' (first | refine sq ?_ | refine stp ?_ | refine blk_o (by decide) ?_ | (apply cb;(focus (simp (disch:=(first | omega | (simp;omega))) only [go_sem,w64,ratsD,g1,g2,ratDV,y1,eqT2,and_self,true_and];try exact rfl));refine cok ?_) | (refine rgT ?_;intro K hK) | (refine dA ?_;intro K hK) | (with_reducible refine hK _ ?_;clear hK K) | (refine stq ?_;simp (disch:=(first | omega | (simp;omega))) only [go_sem,w64,ratsD,g1,g2,ratDV,y1,eqT2,and_self,true_and]) | refine as1 ?_ | fail)
     (refine endA (r:=.d (.bool false)) ?_)
     exact ⟨by rw [eqQ_no hk2 (by rw [hs,y1];rfl)],rfl⟩
   ·obtain rfl:k=a.length:=by omega
    repeat' (first | refine sq ?_ | refine stp ?_ | refine blk_o (by decide) ?_ | (apply cb;(focus (simp (disch:=(first | omega | (simp;omega))) only [go_sem,w64];try exact rfl));refine cok ?_) | (refine rgT ?_;intro K hK) | (refine dA ?_;intro K hK) | (with_reducible refine hK _ ?_;clear hK K) | (refine stq ?_;simp (disch:=(first | omega | (simp;omega))) only [go_sem,w64]) | refine as1 ?_ | fail)
    (refine endA (r:=.d (.bool true)) ?_)
    exact ⟨by rw [eqQ_yes (by omega) hd],rfl⟩
 ·have z1:decide (((a.length:Nat):Int)=(b.length:Nat))=false:=decide_eq_false hl
  repeat' (first | refine sq ?_ | refine stp ?_ | refine blk_o (by decide) ?_ | (apply cb;(focus (simp (disch:=(first | omega | (simp;omega))) only [go_sem,w64,ratsD,z1];try exact rfl));refine cok ?_) | (refine rgT ?_;intro K hK) | (refine dA ?_;intro K hK) | (with_reducible refine hK _ ?_;clear hK K) | (refine stq ?_;simp (disch:=(first | omega | (simp;omega))) only [go_sem,w64,ratsD,z1]) | refine as1 ?_ | fail)
  (refine endA (r:=.d (.bool false)) ?_)
  exact ⟨by unfold eqQ;rw [decide_eq_false (by omega)];rfl,rfl⟩
def lpD (A:List (List RatD)) (B C:List RatD):DV:=.agg [matD A,ratsD B,ratsD C]
def n15 (n:Nat):Bool:=decide ((1:Int)≤n∧(n:Int)≤5)
def lpV (A:List (List RatD)) (B C:List RatD):Bool:=n15 C.length && (n15 B.length && (matOK A B.length C.length && (vL B && vL C)))
theorem n15_out {n:Nat} (h:n15 n=true):1≤n∧n≤5:=by
 have:=of_decide_eq_true h;omega
theorem lpV_out {A:List (List RatD)} {B C:List RatD} (h:lpV A B C=true):(1≤C.length∧C.length≤5)∧(1≤B.length∧B.length≤5)∧matOK A B.length C.length=true∧vL B=true∧vL C=true:=by
 simp only [lpV,Bool.and_eq_true] at h
 exact ⟨n15_out h.1,n15_out h.2.1,h.2.2.1,h.2.2.2⟩
section
variable (A:List (List RatD)) (B C:List RatD) (hA:A.length≤1048576) (hr:∀ i,i<A.length→(mx A i).length≤1048576) (hB:B.length≤1048576) (hC:C.length≤1048576)
include hA hr hB hC
set_option maxHeartbeats 2000000 in
theorem implLpA:AFn 61 [.d (lpD A B C)] [] (fun r os=>r=.d (.bool (lpV A B C))∧os=[]):=by
 refine afn_of (rv:=[.tmp 2]) tyT_ok Tryd.func61 rfl (by decide +kernel) Tryd.ntmps61 rfl (by simp) ?_
 repeat' (first | refine sq ?_ | refine stp ?_ | refine blk_o (by decide) ?_ | (apply cb;(focus (simp (disch:=(first | omega | (simp;omega))) only [go_sem,w64,lpD];try exact rfl));refine cok ?_) | (refine rgT ?_;intro K hK) | (refine dA ?_;intro K hK) | (with_reducible refine hK _ ?_;clear hK K) | (refine stq ?_;simp (disch:=(first | omega | (simp;omega))) only [go_sem,w64,lpD]) | refine as1 ?_ | fail)
 (first | refine callA (withinR (C.length:Nat) 1 5) ?_ | refine callD (withinR (C.length:Nat) 1 5) ?_ | refine callE (withinR (C.length:Nat) 1 5) ?_ | refine callF (withinR (C.length:Nat) 1 5) ?_ ?_)
 cases h1:n15 C.length with
 | false =>
  have y1:decide ((1:Int)≤(C.length:Nat)∧((C.length:Nat):Int)≤5)=false:=h1
  repeat' (first | refine sq ?_ | refine stp ?_ | refine blk_o (by decide) ?_ | (apply cb;(focus (simp (disch:=(first | omega | (simp;omega))) only [go_sem,w64,lpD,y1];try exact rfl));refine cok ?_) | (refine rgT ?_;intro K hK) | (refine dA ?_;intro K hK) | (with_reducible refine hK _ ?_;clear hK K) | (refine stq ?_;simp (disch:=(first | omega | (simp;omega))) only [go_sem,w64,lpD,y1]) | refine as1 ?_ | fail)
  (refine endA (r:=.d (.bool false)) ?_)
  exact ⟨by unfold lpV;rw [h1];rfl,rfl⟩
 | true =>
  have y1:decide ((1:Int)≤(C.length:Nat)∧((C.length:Nat):Int)≤5)=true:=h1
  repeat' (first | refine sq ?_ | refine stp ?_ | refine blk_o (by decide) ?_ | (apply cb;(focus (simp (disch:=(first | omega | (simp;omega))) only [go_sem,w64,lpD,y1];try exact rfl));refine cok ?_) | (refine rgT ?_;intro K hK) | (refine dA ?_;intro K hK) | (with_reducible refine hK _ ?_;clear hK K) | (refine stq ?_;simp (disch:=(first | omega | (simp;omega))) only [go_sem,w64,lpD,y1]) | refine as1 ?_ | fail)
  (first | refine callA (withinR (B.length:Nat) 1 5) ?_ | refine callD (withinR (B.length:Nat) 1 5) ?_ | refine callE (withinR (B.length:Nat) 1 5) ?_ | refine callF (withinR (B.length:Nat) 1 5) ?_ ?_)
  cases h2:n15 B.length with
  | false =>
   have y2:decide ((1:Int)≤(B.length:Nat)∧((B.length:Nat):Int)≤5)=false:=h2
   repeat' (first | refine sq ?_ | refine stp ?_ | refine blk_o (by decide) ?_ | (apply cb;(focus (simp (disch:=(first | omega | (simp;omega))) only [go_sem,w64,lpD,y2];try exact rfl));refine cok ?_) | (refine rgT ?_;intro K hK) | (refine dA ?_;intro K hK) | (with_reducible refine hK _ ?_;clear hK K) | (refine stq ?_;simp (disch:=(first | omega | (simp;omega))) only [go_sem,w64,lpD,y2]) | refine as1 ?_ | fail)
   (refine endA (r:=.d (.bool false)) ?_)
   exact ⟨by unfold lpV;rw [h1,h2];rfl,rfl⟩
  | true =>
   have y2:decide ((1:Int)≤(B.length:Nat)∧((B.length:Nat):Int)≤5)=true:=h2
   by_cases h3:((A.length:Nat):Int)=(B.length:Nat)
   ·have y3:decide (((A.length:Nat):Int)=(B.length:Nat))=true:=decide_eq_true h3
    repeat' (first | refine sq ?_ | refine stp ?_ | refine blk_o (by decide) ?_ | (apply cb;(focus (simp (disch:=(first | omega | (simp;omega))) only [go_sem,w64,lpD,y2,y3];try exact rfl));refine cok ?_) | (refine rgT ?_;intro K hK) | (refine dA ?_;intro K hK) | (with_reducible refine hK _ ?_;clear hK K) | (refine stq ?_;simp (disch:=(first | omega | (simp;omega))) only [go_sem,w64,lpD,y2,y3]) | refine as1 ?_ | fail)
    (first | refine callA (allValidA B hB) ?_ | refine callD (allValidA B hB) ?_ | refine callE (allValidA B hB) ?_ | refine callF (allValidA B hB) ?_ ?_)
    cases h4:vL B with
    | false =>
     repeat' (first | refine sq ?_ | refine stp ?_ | refine blk_o (by decide) ?_ | (apply cb;(focus (simp (disch:=(first | omega | (simp;omega))) only [go_sem,w64,lpD];try exact rfl));refine cok ?_) | (refine rgT ?_;intro K hK) | (refine dA ?_;intro K hK) | (with_reducible refine hK _ ?_;clear hK K) | (refine stq ?_;simp (disch:=(first | omega | (simp;omega))) only [go_sem,w64,lpD]) | refine as1 ?_ | fail)
     (refine endA (r:=.d (.bool false)) ?_)
     exact ⟨by unfold lpV;rw [h1,h2,h4];simp,rfl⟩
    | true =>
     repeat' (first | refine sq ?_ | refine stp ?_ | refine blk_o (by decide) ?_ | (apply cb;(focus (simp (disch:=(first | omega | (simp;omega))) only [go_sem,w64,lpD];try exact rfl));refine cok ?_) | (refine rgT ?_;intro K hK) | (refine dA ?_;intro K hK) | (with_reducible refine hK _ ?_;clear hK K) | (refine stq ?_;simp (disch:=(first | omega | (simp;omega))) only [go_sem,w64,lpD]) | refine as1 ?_ | fail)
     (first | refine callA (allValidA C hC) ?_ | refine callD (allValidA C hC) ?_ | refine callE (allValidA C hC) ?_ | refine callF (allValidA C hC) ?_ ?_)
     cases h5:vL C with
     | false =>
      repeat' (first | refine sq ?_ | refine stp ?_ | refine blk_o (by decide) ?_ | (apply cb;(focus (simp (disch:=(first | omega | (simp;omega))) only [go_sem,w64,lpD];try exact rfl));refine cok ?_) | (refine rgT ?_;intro K hK) | (refine dA ?_;intro K hK) | (with_reducible refine hK _ ?_;clear hK K) | (refine stq ?_;simp (disch:=(first | omega | (simp;omega))) only [go_sem,w64,lpD]) | refine as1 ?_ | fail)
      (refine endA (r:=.d (.bool false)) ?_)
      exact ⟨by unfold lpV;rw [h1,h2,h4,h5];simp,rfl⟩
     | true =>
      repeat' (first | refine sq ?_ | refine stp ?_ | refine blk_o (by decide) ?_ | (apply cb;(focus (simp (disch:=(first | omega | (simp;omega))) only [go_sem,w64,lpD];try exact rfl));refine cok ?_) | (refine rgT ?_;intro K hK) | (refine dA ?_;intro K hK) | (with_reducible refine hK _ ?_;clear hK K) | (refine stq ?_;simp (disch:=(first | omega | (simp;omega))) only [go_sem,w64,lpD]) | refine as1 ?_ | fail)
      refine awp_loopw (fun mm s=>∃ i,mm=A.length - i∧i≤A.length∧(∀ j,j<i→rowV C.length (mx A j)=true)∧s=mkS [(3,.d (.int (C.length:Nat))),(41,.d (matD A)),(42,.d (.int (A.length:Nat))),(43,.d (.int (i:Nat)))] []) ?_ ?_
      ·refine ⟨_,_,?_,0,rfl,Nat.zero_le _,fun j h=>absurd h (Nat.not_lt_zero _),rfl⟩
       (refine sle_mk ?_ ?_ <;> simp (disch:=(first | omega | (simp;omega))) only [go_sem,w64,matD] <;> exact leafs)
      ·rintro mm s ⟨i,rfl,hi,hd,rfl⟩
       repeat' (first | refine sq ?_ | refine stp ?_ | refine blk_o (by decide) ?_ | (apply cb;(focus (simp (disch:=(first | omega | (simp;omega))) only [go_sem,w64,matD];try exact rfl));refine cok ?_) | (refine rgT ?_;intro K hK) | (refine dA ?_;intro K hK) | (with_reducible refine hK _ ?_;clear hK K) | (refine stq ?_;simp (disch:=(first | omega | (simp;omega))) only [go_sem,w64,matD]) | refine as1 ?_ | fail)
       refine awp_if (p:=(i:Int)<(A.length:Nat)) (by simp (disch:=(first | omega | (simp;omega))) only [go_sem,w64]) ?_ ?_ <;> intro hc
       ·have hi2:i<A.length:=by omega
        have g0:(A.map ratsD).getD i (.bool false)=ratsD (mx A i):=getDm hi2
        by_cases h6:(((mx A i).length:Nat):Int)=(C.length:Nat)
        ·have y6:decide ((((mx A i).length:Nat):Int)=(C.length:Nat))=true:=decide_eq_true h6
         repeat' (first | refine sq ?_ | refine stp ?_ | refine blk_o (by decide) ?_ | (apply cb;(focus (simp (disch:=(first | omega | (simp;omega))) only [go_sem,w64,matD,g0,y6];try exact rfl));refine cok ?_) | (refine rgT ?_;intro K hK) | (refine dA ?_;intro K hK) | (with_reducible refine hK _ ?_;clear hK K) | (refine stq ?_;simp (disch:=(first | omega | (simp;omega))) only [go_sem,w64,matD,g0,y6]) | refine as1 ?_ | fail)
         (first | refine callA (allValidA (mx A i) (hr i hi2)) ?_ | refine callD (allValidA (mx A i) (hr i hi2)) ?_ | refine callE (allValidA (mx A i) (hr i hi2)) ?_ | refine callF (allValidA (mx A i) (hr i hi2)) ?_ ?_)
         cases h7:vL (mx A i) with
         | false =>
          repeat' (first | refine sq ?_ | refine stp ?_ | refine blk_o (by decide) ?_ | (apply cb;(focus (simp (disch:=(first | omega | (simp;omega))) only [go_sem,w64];try exact rfl));refine cok ?_) | (refine rgT ?_;intro K hK) | (refine dA ?_;intro K hK) | (with_reducible refine hK _ ?_;clear hK K) | (refine stq ?_;simp (disch:=(first | omega | (simp;omega))) only [go_sem,w64]) | refine as1 ?_ | fail)
          (refine endA (r:=.d (.bool false)) ?_)
          exact ⟨by unfold lpV matOK;rw [matOK_no hi2 (by unfold rowV;rw [h7,Bool.and_false])];simp,rfl⟩
         | true =>
          repeat' (first | refine sq ?_ | refine stp ?_ | refine blk_o (by decide) ?_ | (apply cb;(focus (simp (disch:=(first | omega | (simp;omega))) only [go_sem,w64];try exact rfl));refine cok ?_) | (refine rgT ?_;intro K hK) | (refine dA ?_;intro K hK) | (with_reducible refine hK _ ?_;clear hK K) | (refine stq ?_;simp (disch:=(first | omega | (simp;omega))) only [go_sem,w64]) | refine as1 ?_ | fail)
          refine ⟨A.length - (i+1),_,by omega,?_,i+1,rfl,by omega,fun j hj=>?_,rfl⟩
          ·(refine sle_mk ?_ ?_ <;> simp (disch:=(first | omega | (simp;omega))) only [go_sem,w64,matD] <;> exact leafs)
          ·by_cases e:j=i
           ·subst e
            unfold rowV
            rw [decide_eq_true (by omega),h7];rfl
           ·exact hd j (by omega)
        ·have y6:decide ((((mx A i).length:Nat):Int)=(C.length:Nat))=false:=decide_eq_false h6
         repeat' (first | refine sq ?_ | refine stp ?_ | refine blk_o (by decide) ?_ | (apply cb;(focus (simp (disch:=(first | omega | (simp;omega))) only [go_sem,w64,matD,g0,y6];try exact rfl));refine cok ?_) | (refine rgT ?_;intro K hK) | (refine dA ?_;intro K hK) | (with_reducible refine hK _ ?_;clear hK K) | (refine stq ?_;simp (disch:=(first | omega | (simp;omega))) only [go_sem,w64,matD,g0,y6]) | refine as1 ?_ | fail)
         (refine endA (r:=.d (.bool false)) ?_)
         exact ⟨by unfold lpV matOK;rw [matOK_no hi2 (by unfold rowV;rw [decide_eq_false (by omega)];rfl)];simp,rfl⟩
       ·obtain rfl:i=A.length:=by omega
        repeat' (first | refine sq ?_ | refine stp ?_ | refine blk_o (by decide) ?_ | (apply cb;(focus (simp (disch:=(first | omega | (simp;omega))) only [go_sem,w64];try exact rfl));refine cok ?_) | (refine rgT ?_;intro K hK) | (refine dA ?_;intro K hK) | (with_reducible refine hK _ ?_;clear hK K) | (refine stq ?_;simp (disch:=(first | omega | (simp;omega))) only [go_sem,w64]) | refine as1 ?_ | fail)
        (refine endA (r:=.d (.bool true)) ?_)
        exact ⟨by unfold lpV matOK;rw [h1,h2,h4,h5,matOK_rows hd,decide_eq_true (by omega)];rfl,rfl⟩
   ·have y3:decide (((A.length:Nat):Int)=(B.length:Nat))=false:=decide_eq_false h3
    repeat' (first | refine sq ?_ | refine stp ?_ | refine blk_o (by decide) ?_ | (apply cb;(focus (simp (disch:=(first | omega | (simp;omega))) only [go_sem,w64,lpD,y2,y3];try exact rfl));refine cok ?_) | (refine rgT ?_;intro K hK) | (refine dA ?_;intro K hK) | (with_reducible refine hK _ ?_;clear hK K) | (refine stq ?_;simp (disch:=(first | omega | (simp;omega))) only [go_sem,w64,lpD,y2,y3]) | refine as1 ?_ | fail)
    (refine endA (r:=.d (.bool false)) ?_)
    exact ⟨by unfold lpV matOK;rw [h1,h2,decide_eq_false (by omega)];rfl,rfl⟩
omit hA hr hB hC in
theorem mat1 (l:List RatD):matOK [l] 1 l.length=vL l:=by
 unfold matOK rowV
 simp
omit hr in
set_option maxHeartbeats 2000000 in
theorem specLpA:AFn 20 [.d (lpD A B C)] [] (fun r os=>r=.d (.bool (lpV A B C))∧os=[]):=by
 have s1:=squareA A B.length C.length hA hC hB
 have s2:=squareA [C] 1 C.length (by simp) hC (by omega)
 have s3:=squareA [B] 1 B.length (by simp) hB (by omega)
 rw [mat1] at s2 s3
 refine afn_of (rv:=[.tmp 2]) tyT_ok Tryd.func20 rfl (by decide +kernel) Tryd.ntmps20 rfl (by simp) ?_
 repeat' (first | refine sq ?_ | refine stp ?_ | refine blk_o (by decide) ?_ | (apply cb;(focus (simp (disch:=(first | omega | (simp;omega))) only [go_sem,w64,lpD];try exact rfl));refine cok ?_) | (refine rgT ?_;intro K hK) | (refine dA ?_;intro K hK) | (with_reducible refine hK _ ?_;clear hK K) | (refine stq ?_;simp (disch:=(first | omega | (simp;omega))) only [go_sem,w64,lpD]) | refine as1 ?_ | fail)
 (first | refine callA (inR (C.length:Nat) 1 5) ?_ | refine callD (inR (C.length:Nat) 1 5) ?_ | refine callE (inR (C.length:Nat) 1 5) ?_ | refine callF (inR (C.length:Nat) 1 5) ?_ ?_)
 cases h1:n15 C.length with
 | false =>
  have y1:decide ((1:Int)≤(C.length:Nat)∧((C.length:Nat):Int)≤5)=false:=h1
  repeat' (first | refine sq ?_ | refine stp ?_ | refine blk_o (by decide) ?_ | (apply cb;(focus (simp (disch:=(first | omega | (simp;omega))) only [go_sem,w64,lpD,y1];try exact rfl));refine cok ?_) | (refine rgT ?_;intro K hK) | (refine dA ?_;intro K hK) | (with_reducible refine hK _ ?_;clear hK K) | (refine stq ?_;simp (disch:=(first | omega | (simp;omega))) only [go_sem,w64,lpD,y1]) | refine as1 ?_ | fail)
  (refine endA (r:=.d (.bool false)) ?_)
  exact ⟨by unfold lpV;rw [h1];rfl,rfl⟩
 | true =>
  have y1:decide ((1:Int)≤(C.length:Nat)∧((C.length:Nat):Int)≤5)=true:=h1
  repeat' (first | refine sq ?_ | refine stp ?_ | refine blk_o (by decide) ?_ | (apply cb;(focus (simp (disch:=(first | omega | (simp;omega))) only [go_sem,w64,lpD,y1];try exact rfl));refine cok ?_) | (refine rgT ?_;intro K hK) | (refine dA ?_;intro K hK) | (with_reducible refine hK _ ?_;clear hK K) | (refine stq ?_;simp (disch:=(first | omega | (simp;omega))) only [go_sem,w64,lpD,y1]) | refine as1 ?_ | fail)
  (first | refine callA (inR (B.length:Nat) 1 5) ?_ | refine callD (inR (B.length:Nat) 1 5) ?_ | refine callE (inR (B.length:Nat) 1 5) ?_ | refine callF (inR (B.length:Nat) 1 5) ?_ ?_)
  cases h2:n15 B.length with
  | false =>
   have y2:decide ((1:Int)≤(B.length:Nat)∧((B.length:Nat):Int)≤5)=false:=h2
   repeat' (first | refine sq ?_ | refine stp ?_ | refine blk_o (by decide) ?_ | (apply cb;(focus (simp (disch:=(first | omega | (simp;omega))) only [go_sem,w64,lpD,y2];try exact rfl));refine cok ?_) | (refine rgT ?_;intro K hK) | (refine dA ?_;intro K hK) | (with_reducible refine hK _ ?_;clear hK K) | (refine stq ?_;simp (disch:=(first | omega | (simp;omega))) only [go_sem,w64,lpD,y2]) | refine as1 ?_ | fail)
   (refine endA (r:=.d (.bool false)) ?_)
   exact ⟨by unfold lpV;rw [h1,h2];rfl,rfl⟩
  | true =>
   have y2:decide ((1:Int)≤(B.length:Nat)∧((B.length:Nat):Int)≤5)=true:=h2
   repeat' (first | refine sq ?_ | refine stp ?_ | refine blk_o (by decide) ?_ | (apply cb;(focus (simp (disch:=(first | omega | (simp;omega))) only [go_sem,w64,lpD,y2];try exact rfl));refine cok ?_) | (refine rgT ?_;intro K hK) | (refine dA ?_;intro K hK) | (with_reducible refine hK _ ?_;clear hK K) | (refine stq ?_;simp (disch:=(first | omega | (simp;omega))) only [go_sem,w64,lpD,y2]) | refine as1 ?_ | fail)
   (first | refine callA (s1) ?_ | refine callD (s1) ?_ | refine callE (s1) ?_ | refine callF (s1) ?_ ?_)
   cases h3:matOK A B.length C.length with
   | false =>
    repeat' (first | refine sq ?_ | refine stp ?_ | refine blk_o (by decide) ?_ | (apply cb;(focus (simp (disch:=(first | omega | (simp;omega))) only [go_sem,w64,lpD];try exact rfl));refine cok ?_) | (refine rgT ?_;intro K hK) | (refine dA ?_;intro K hK) | (with_reducible refine hK _ ?_;clear hK K) | (refine stq ?_;simp (disch:=(first | omega | (simp;omega))) only [go_sem,w64,lpD]) | refine as1 ?_ | fail)
    (refine endA (r:=.d (.bool false)) ?_)
    exact ⟨by unfold lpV;rw [h1,h2,h3];rfl,rfl⟩
   | true =>
    repeat' (first | refine sq ?_ | refine stp ?_ | refine blk_o (by decide) ?_ | (apply cb;(focus (simp (disch:=(first | omega | (simp;omega))) only [go_sem,w64,lpD];try exact rfl));refine cok ?_) | (refine rgT ?_;intro K hK) | (refine dA ?_;intro K hK) | (with_reducible refine hK _ ?_;clear hK K) | (refine stq ?_;simp (disch:=(first | omega | (simp;omega))) only [go_sem,w64,lpD]) | refine as1 ?_ | fail)
    (first | refine callA (s2) ?_ | refine callD (s2) ?_ | refine callE (s2) ?_ | refine callF (s2) ?_ ?_)
    cases h5:vL C with
    | false =>
     repeat' (first | refine sq ?_ | refine stp ?_ | refine blk_o (by decide) ?_ | (apply cb;(focus (simp (disch:=(first | omega | (simp;omega))) only [go_sem,w64,lpD];try exact rfl));refine cok ?_) | (refine rgT ?_;intro K hK) | (refine dA ?_;intro K hK) | (with_reducible refine hK _ ?_;clear hK K) | (refine stq ?_;simp (disch:=(first | omega | (simp;omega))) only [go_sem,w64,lpD]) | refine as1 ?_ | fail)
     (refine endA (r:=.d (.bool false)) ?_)
     exact ⟨by unfold lpV;rw [h1,h2,h3,h5];simp,rfl⟩
    | true =>
     repeat' (first | refine sq ?_ | refine stp ?_ | refine blk_o (by decide) ?_ | (apply cb;(focus (simp (disch:=(first | omega | (simp;omega))) only [go_sem,w64,lpD];try exact rfl));refine cok ?_) | (refine rgT ?_;intro K hK) | (refine dA ?_;intro K hK) | (with_reducible refine hK _ ?_;clear hK K) | (refine stq ?_;simp (disch:=(first | omega | (simp;omega))) only [go_sem,w64,lpD]) | refine as1 ?_ | fail)
     (first | refine callA (s3) ?_ | refine callD (s3) ?_ | refine callE (s3) ?_ | refine callF (s3) ?_ ?_)
     repeat' (first | refine sq ?_ | refine stp ?_ | refine blk_o (by decide) ?_ | (apply cb;(focus (simp (disch:=(first | omega | (simp;omega))) only [go_sem,w64,lpD];try exact rfl));refine cok ?_) | (refine rgT ?_;intro K hK) | (refine dA ?_;intro K hK) | (with_reducible refine hK _ ?_;clear hK K) | (refine stq ?_;simp (disch:=(first | omega | (simp;omega))) only [go_sem,w64,lpD]) | refine as1 ?_ | fail)
     (refine endA (r:=.d (.bool (vL B))) ?_)
     exact ⟨by unfold lpV;rw [h1,h2,h3,h5];simp,rfl⟩
end
end Go.Proofs.YtkohkoiegmcghaaDoor
