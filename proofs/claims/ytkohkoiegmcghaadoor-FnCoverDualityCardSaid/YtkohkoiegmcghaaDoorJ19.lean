/- Lemmas for the proof of FnCoverDuality, part 19 of 26: no condition of their own. -/
import Derived.Test.YtkohkoiegmcghaaDoorJ18
import Derived.Test.YtkohkoiegmcghaaDoorJ6
import Derived.Test.YtkohkoiegmcghaaDoorJ7
import Derived.Test.YtkohkoiegmcghaaDoorJ4
import Derived.Deep.CutBlock
import Derived.Deep.DeepCutAuto
namespace Go.Proofs.YtkohkoiegmcghaaDoor
set_option linter.unusedSimpArgs false
set_option linter.unusedVariables false
open Go.RowKit
theorem sig3 (f:Nat→Rat):sig f 3=f 0+f 1+f 2:=by simp only [sig];grind
theorem com_after {q:Nat} {M:Nat→Nat→Rat} {x:Nat→Rat} {w:Nat→Nat→Int} {B:Nat} (hG:Gs (q+3) q M x) (hw:∀ i k,i<q+3→k<q+4→M i k=(w i k:Rat)∧(w i k).natAbs≤B) (hp:∀ i,i<q→w i i=1∨w i i = -1) :
 ∃ (D:Int) (X:Nat→Int),D ≠ 0∧D.natAbs≤3*(B*(B*B+B*B))∧∀ j,j<q+3→(X j).natAbs≤(4*B+1)*(3*(B*(B*B+B*B)))∧x j=(X j:Rat) / (D:Rat):=by
 have hlow:∀ i,q≤i→i<q+3→∀ d:Nat→Rat,sig (fun k=>M i k*d k) (q+3)=(w i q:Rat)*d q+(w i (q+1):Rat)*d (q+1)+(w i (q+2):Rat)*d (q+2):=fun i h1 h2 d=>by
  rw [sig_split,sig_const0 (fun k hk=>by rw [hG.zero i k h2 hk (by omega)];grind),sig3,(hw i (q+0) h2 (by omega)).1,(hw i (q+1) h2 (by omega)).1,(hw i (q+2) h2 (by omega)).1]
  simp only [Nat.add_zero];grind
 have hhigh:∀ i,i<q→∀ d:Nat→Rat,sig (fun k=>M i k*d k) (q+3)=(w i i:Rat)*d i+((w i q:Rat)*d q+(w i (q+1):Rat)*d (q+1)+(w i (q+2):Rat)*d (q+2)):=fun i h1 d=>by
  have e:sig (fun k=>M i k*d k) q=sig (fun k=>(if k=i then (w i i:Rat) else 0)*d k) q:=sig_congr fun k hk=>by
   by_cases c:k=i
   ·subst c;rw [if_pos rfl,(hw k k (by omega) (by omega)).1]
   ·rw [if_neg c,hG.zero i k (by omega) hk (fun e=>c e.symm)]
  rw [sig_split,e,sig_one d i _ q h1,sig3,(hw i (q+0) (by omega) (by omega)).1,(hw i (q+1) (by omega) (by omega)).1,(hw i (q+2) (by omega) (by omega)).1]
  simp only [Nat.add_zero]
 obtain ⟨D,X,h1,h2,h3⟩:=com3 (a:=fun i k=>w (q+i) (q+k)) (x:=fun k=>x (q+k)) (B:=B) (fun i k hi hk=>(hw _ _ (by omega) (by omega)).2)
  (fun d0 d1 d2 h=>by
   let t:Nat→Rat:=fun k=>if k=q then d0 else if k=q+1 then d1 else if k=q+2 then d2 else 0
   let d:Nat→Rat:=fun k=>if k<q then - ((w k k:Rat)*((w k q:Rat)*d0+(w k (q+1):Rat)*d1+(w k (q+2):Rat)*d2)) else t k
   have e0:d q=d0:=by simp [d,t]
   have e1:d (q+1)=d1:=by simp [d,t,show ¬ q+1<q by omega]
   have e2:d (q+2)=d2:=by simp [d,t,show ¬ q+2<q by omega]
   have hd:=hG.null d (fun i hi=>by
    by_cases c:i<q
    ·rw [hhigh i c d,e0,e1,e2]
     have ei:d i = - ((w i i:Rat)*((w i q:Rat)*d0+(w i (q+1):Rat)*d1+(w i (q+2):Rat)*d2)):=by simp only [d,c,if_true]
     rw [ei]
     rcases hp i c with h | h <;> rw [h] <;> simp <;> grind
    ·rw [hlow i (by omega) hi d,e0,e1,e2]
     have:=h (i - q) (by omega)
     simp only [show q+(i - q)=i by omega,Nat.add_zero] at this
     exact this)
   exact ⟨by rw [← e0];exact hd q (by omega),by rw [← e1];exact hd _ (by omega),by rw [← e2];exact hd _ (by omega)⟩)
  (fun i hi=>by
   have:=hlow (q+i) (by omega) (by omega) x
   rw [hG.sol _ (by omega),(hw _ _ (by omega) (by omega)).1] at this
   simp only [Nat.add_zero]
   exact this.symm)
 have hD:=castNe h1
 refine ⟨D,fun j=>if j<q then w j j*(w j (q+3)*D - (w j q*X 0+w j (q+1)*X 1+w j (q+2)*X 2)) else X (j - q),h1,h2,fun j hj=>?_⟩
 generalize 3*(B*(B*B+B*B))=K at *
 by_cases c:j<q
 ·simp only [c,if_true]
  have hb:∀ (k:Nat) (Y:Int),k<q+4→Y.natAbs≤K→(w j k*Y).natAbs≤B*K:=fun k Y hk hY=>abs_mul_le (hw j k (by omega) hk).2 hY
  have b0:=hb q (X 0) (by omega) (h3 0 (by omega)).1
  have b1:=hb (q+1) (X 1) (by omega) (h3 1 (by omega)).1
  have b2:=hb (q+2) (X 2) (by omega) (h3 2 (by omega)).1
  have b3:=hb (q+3) D (by omega) h2
  have bb:(4*B+1)*K=B*K+B*K+B*K+B*K+K:=by rw [Nat.add_mul,Nat.mul_assoc];omega
  have hs:=hhigh j c x
  rw [hG.sol _ (by omega),(hw _ _ (by omega) (by omega)).1] at hs
  have x0:=(h3 0 (by omega)).2
  have x1:=(h3 1 (by omega)).2
  have x2:=(h3 2 (by omega)).2
  simp only [Nat.add_zero] at x0
  refine ⟨?_,?_⟩
  ·rcases hp j c with h | h <;> rw [h] <;> omega
  ·rw [x0,x1,x2] at hs
   have key:(D:Rat)*x j=((w j j*(w j (q+3)*D - (w j q*X 0+w j (q+1)*X 1+w j (q+2)*X 2)):Int):Rat):=by
    have m0:=Rat.div_mul_cancel (a:=(X 0:Rat)) hD
    have m1:=Rat.div_mul_cancel (a:=(X 1:Rat)) hD
    have m2:=Rat.div_mul_cancel (a:=(X 2:Rat)) hD
    generalize (X 0:Rat) / (D:Rat)=P0 at *
    generalize (X 1:Rat) / (D:Rat)=P1 at *
    generalize (X 2:Rat) / (D:Rat)=P2 at *
    rcases hp j c with h | h
    ·rw [h] at hs ⊢
     simp only [Rat.intCast_mul,Rat.intCast_sub,Rat.intCast_add]
     rw [← m0,← m1,← m2]
     simp at hs ⊢;grind
    ·rw [h] at hs ⊢
     simp only [Rat.intCast_mul,Rat.intCast_sub,Rat.intCast_add]
     rw [← m0,← m1,← m2]
     simp at hs ⊢;grind
   rw [← key]
   have:=Rat.div_mul_cancel (a:=(D:Rat)*x j) hD
   generalize (D:Rat)*x j / (D:Rat)=T at *
   grind
 ·simp only [c,if_false]
  have:=h3 (j - q) (by omega)
  rw [show q+(j - q)=j by omega] at this
  refine ⟨?_,this.2⟩
  have bb:(4*B+1)*K=B*K+B*K+B*K+B*K+K:=by rw [Nat.add_mul,Nat.mul_assoc];omega
  omega
theorem gs_next {n p:Nat} {M:Nat→Nat→Rat} {x:Nat→Rat} (h:Gs n p M x) (hp:p<n):∃ k,p≤k∧k<n∧M k p ≠ 0∧Gs n (p+1) (fun i j=>if i=p then M k j else M (swI p k i) j - M (swI p k i) p / M k p*M k j) x:=by
 obtain ⟨k,h1,h2,h3⟩:=h.pivot hp
 have e:swI p k p=k:=by simp [swI]
 have hs:=h.swap (M':=fun i j=>M (swI p k i) j) hp h1 h2 (fun _ _=>rfl)
 refine ⟨k,h1,h2,h3,hs.step hp (by simpa only [e] using h3) (fun j=>by simp only [if_true,e]) (fun i j hi hne hj=>by simp only [hne,if_false,e])⟩
def IntM (n B:Nat) (M:Nat→Nat→Rat):Prop:=∃ w:Nat→Nat→Int,∀ i k,i<n→k<n+1→M i k=(w i k:Rat)∧(w i k).natAbs≤B
theorem intM_of {n B:Nat} {M:Nat→Nat→Rat} (h:∀ i k,i<n→k<n+1→∃ w:Int,M i k=(w:Rat)∧w.natAbs≤B):IntM n B M:=by
 obtain ⟨w,hw⟩:=Classical.axiomOfChoice (r:=fun (p:Nat×Nat) (w:Int)=>p.1<n→p.2<n+1→M p.1 p.2=(w:Rat)∧w.natAbs≤B) fun p=>by
  by_cases h1:p.1<n
  ·by_cases h2:p.2<n+1
   ·obtain ⟨w,hw⟩:=h _ _ h1 h2;exact ⟨w,fun _ _=>hw⟩
   ·exact ⟨0,fun _ g=>absurd g h2⟩
  ·exact ⟨0,fun g=>absurd g h1⟩
 exact ⟨fun i k=>w (i,k),fun i k hi hk=>hw (i,k) hi hk⟩
theorem unit_cast {u:Int} (h:u.natAbs≤1) (h0:(u:Rat) ≠ 0):u=1∨u = -1:=by
 have:u ≠ 0:=fun e=>h0 (by rw [e];rfl)
 omega
theorem div_unit {a u:Rat} (h:u=1∨u = -1):a / u=a*u:=by
 rcases h with h | h <;> subst h
 ·have:=Rat.div_mul_cancel (a:=a) (b:=1) (by decide);generalize a / 1=t at *;grind
 ·have:=Rat.div_mul_cancel (a:=a) (b:=-1) (by decide);generalize a / -1=t at *;grind
theorem int_step {B:Nat} {a b c e u:Rat} {wa wb we wu:Int} (ha:a=wa) (hb:b=wb) (he:e=we) (hu:u=wu) (hu1:wu=1∨wu = -1):a - b / u*e=((wa - wb*wu*we:Int):Rat):=by
 rw [div_unit (by rcases hu1 with h | h <;> subst h <;> simp [hu]),ha,hb,he,hu,Rat.intCast_sub,Rat.intCast_mul,Rat.intCast_mul]
theorem ones_step {n:Nat} {M:Nat→Nat→Rat} {k:Nat} (hM:∀ i j,i<n→j<n+1→M i j=0∨M i j=1) (hk:k<n) (h0:M k 0 ≠ 0) :
 IntM n 1 (fun i j=>if i=0 then M k j else M (swI 0 k i) j - M (swI 0 k i) 0 / M k 0*M k j)∧M k 0=1:=by
 have h1:M k 0=1:=by
  rcases hM k 0 hk (by omega) with h | h
  ·exact absurd h h0
  ·exact h
 refine ⟨intM_of fun i j hi hj=>?_,h1⟩
 have hz:∀ i j,i<n→j<n+1→∃ w:Int,M i j=(w:Rat)∧(w=0∨w=1):=fun i j hi hj=>by
  rcases hM i j hi hj with h | h
  ·exact ⟨0,by rw [h];rfl,.inl rfl⟩
  ·exact ⟨1,by rw [h];rfl,.inr rfl⟩
 obtain ⟨e,he,ke⟩:=hz k j hk hj
 by_cases c:i=0
 ·simp only [c,if_true]
  exact ⟨e,he,by omega⟩
 ·simp only [c,if_false]
  have hs:swI 0 k i<n:=swI_lt (by omega) hk hi
  obtain ⟨a,ha,ka⟩:=hz _ j hs hj
  obtain ⟨b,hb,kb⟩:=hz _ 0 hs (by omega)
  refine ⟨a - b*1*e,int_step (B:=1) (c:=0) ha hb he h1 (.inl rfl),?_⟩
  rcases kb with h | h <;> subst h <;> omega
theorem two_step {n p:Nat} {M:Nat→Nat→Rat} {k:Nat} (hM:IntM n 1 M) (hp:p<n) (hk:k<n) (h0:M k p ≠ 0) :
 IntM n 2 (fun i j=>if i=p then M k j else M (swI p k i) j - M (swI p k i) p / M k p*M k j)∧(M k p=1∨M k p = -1):=by
 obtain ⟨w,hw⟩:=hM
 have hu:w k p=1∨w k p = -1:=unit_cast (hw k p hk (by omega)).2 (by rw [← (hw k p hk (by omega)).1];exact h0)
 refine ⟨intM_of fun i j hi hj=>?_,?_⟩
 ·by_cases c:i=p
  ·simp only [c,if_true]
   exact ⟨_,(hw k j hk hj).1,by have:=(hw k j hk hj).2;omega⟩
  ·simp only [c,if_false]
   have hs:swI p k i<n:=swI_lt hp hk hi
   refine ⟨_,int_step (B:=1) (c:=0) (hw _ j hs hj).1 (hw _ p hs (by omega)).1 (hw k j hk hj).1 (hw k p hk (by omega)).1 hu,?_⟩
   have h1:=(hw _ j hs hj).2
   have h2:(w (swI p k i) p*w k p*w k j).natAbs≤1:=abs_mul_le (A:=1) (B:=1) (abs_mul_le (A:=1) (B:=1) (hw _ p hs (by omega)).2 (hw k p hk (by omega)).2) (hw k j hk hj).2
   omega
 ·rw [(hw k p hk (by omega)).1]
  rcases hu with h | h <;> rw [h]
  ·exact .inl rfl
  ·exact .inr rfl
theorem com01 {n:Nat} (hn:n≤5) {M:Nat→Nat→Rat} {x:Nat→Rat} (hM:∀ i j,i<n→j<n+1→M i j=0∨M i j=1) (hG:Gs n 0 M x) :
 ∃ (D:Int) (X:Nat→Int),D ≠ 0∧D.natAbs≤432∧∀ j,j<n→(X j).natAbs≤432∧x j=(X j:Rat) / (D:Rat):=by
 have hz:∀ i j,i<n→j<n+1→∃ w:Int,M i j=(w:Rat)∧w.natAbs≤1:=fun i j hi hj=>by
  rcases hM i j hi hj with h | h
  ·exact ⟨0,by rw [h];rfl,by omega⟩
  ·exact ⟨1,by rw [h];rfl,by omega⟩
 obtain ⟨w,hw⟩:=intM_of hz
 by_cases c3:n≤3
 ·obtain ⟨D,X,h1,h2,h3⟩:=com_pad c3 (z:=w) (x:=x) (B:=1) (by omega) (fun i k hi hk=>(hw i k hi hk).2) (fun d hd=>hG.null d fun i hi=>by
   rw [← hd i hi];exact sig_congr fun k hk=>by rw [(hw i k hi (by omega)).1]) (fun i hi=>by
   rw [← (hw i n hi (by omega)).1,← hG.sol i hi];exact sig_congr fun k hk=>by rw [(hw i k hi (by omega)).1])
  exact ⟨D,X,h1,by omega,fun j hj=>⟨by have:=(h3 j hj).1;omega,(h3 j hj).2⟩⟩
 ·obtain ⟨k,_,hk,hk0,hG1⟩:=gs_next hG (by omega)
  obtain ⟨hM1,hu1⟩:=ones_step hM hk hk0
  by_cases c4:n=4
  ·subst c4
   obtain ⟨w1,hw1⟩:=hM1
   obtain ⟨D,X,h1,h2,h3⟩:=com_after (q:=1) hG1 (w:=w1) (B:=1) (fun i k hi hk=>hw1 i k hi hk) (fun i hi=>by
    have:i=0:=by omega
    subst this
    refine unit_cast (hw1 0 0 (by omega) (by omega)).2 ?_
    rw [← (hw1 0 0 (by omega) (by omega)).1]
    simpa using hk0)
   exact ⟨D,X,h1,by omega,fun j hj=>⟨by have:=(h3 j hj).1;omega,(h3 j hj).2⟩⟩
  ·have c5:n=5:=by omega
   subst c5
   generalize hN:(fun i j=>if i=0 then M k j else M (swI 0 k i) j - M (swI 0 k i) 0 / M k 0*M k j)=N at *
   obtain ⟨k2,hk2p,hk2,hk20,hG2⟩:=gs_next hG1 (by omega)
   obtain ⟨hM2,hu2⟩:=two_step hM1 (by omega) hk2 hk20
   obtain ⟨w2,hw2⟩:=hM2
   obtain ⟨D,X,h1,h2,h3⟩:=com_after (q:=2) hG2 (w:=w2) (B:=2) (fun i k hi hk=>hw2 i k hi hk) (fun i hi=>by
    have e:=(hw2 i i (by omega) (by omega)).1
    have key:((w2 i i:Int):Rat)=1∨((w2 i i:Int):Rat) = -1:=by
     rw [← e]
     have:i=0∨i=1:=by omega
     rcases this with h | h <;> subst h
     ·left
      have es:swI 1 k2 0=0:=by unfold swI;split;omega;split <;> omega
      have ez:N k2 0=0:=hG1.zero k2 0 (by omega) (by omega) (by omega)
      have e00:N 0 0=1:=by rw [← hN];simpa using hu1
      simp only [es,ez,e00]
      simp;grind
     ·simpa using hu2
    rcases key with h | h
    ·left;exact_mod_cast h
    ·right
     have h':((w2 i i:Int):Rat)=((-1:Int):Rat):=by rw [h];rfl
     exact_mod_cast h')
   exact ⟨D,X,h1,by omega,fun j hj=>⟨by have:=(h3 j hj).1;omega,(h3 j hj).2⟩⟩
def Ker (n:Nat) (M:Nat→Nat→Rat) (z:Nat→Rat):Prop:=∀ i,i<n→sig (fun k=>M i k*z k) (n+1)=0
theorem Ker.swap {n p k:Nat} {M M':Nat→Nat→Rat} {z:Nat→Rat} (hp:p<n) (hk:k<n) (e:∀ i j,M' i j=M (swI p k i) j):Ker n M' z↔Ker n M z:=by
 have ee:∀ i,sig (fun j=>M' i j*z j) (n+1)=sig (fun j=>M (swI p k i) j*z j) (n+1):=fun i=>sig_congr fun j _=>by rw [e]
 constructor
 ·intro h i hi
  have:=h (swI p k i) (swI_lt hp hk hi)
  rw [ee,swI_swI] at this;exact this
 ·intro h i hi
  rw [ee];exact h _ (swI_lt hp hk hi)
theorem Ker.step {n p:Nat} {M M':Nat→Nat→Rat} {z:Nat→Rat} (hp:p<n) (e1:∀ k,M' p k=M p k) (e2:∀ i k,i<n→i ≠ p→k<n+1→M' i k=M i k - M i p / M p p*M p k):Ker n M' z↔Ker n M z:=by
 have hs:∀ i,i<n→i ≠ p→sig (fun k=>M' i k*z k) (n+1)=sig (fun k=>M i k*z k) (n+1) - M i p / M p p*sig (fun k=>M p k*z k) (n+1):=fun i hi hip=>by
  rw [← sig_mul,← sig_sub]
  exact sig_congr fun k hk=>by rw [e2 i k hi hip (by omega)];grind
 have hs0:sig (fun k=>M' p k*z k) (n+1)=sig (fun k=>M p k*z k) (n+1):=sig_congr fun k _=>by rw [e1]
 constructor
 ·intro h i hi
  by_cases hip:i=p
  ·subst hip;rw [← hs0];exact h i hi
  ·have h1:=h i hi
   have h2:=h p hp
   rw [hs i hi hip] at h1
   rw [hs0] at h2
   rw [h2] at h1
   grind
 ·intro h i hi
  by_cases hip:i=p
  ·subst hip;rw [hs0];exact h i hi
  ·rw [hs i hi hip,h i hi,h p hp];grind
theorem gs_back {n:Nat} (P:Nat→(Nat→Nat→Rat)→Prop) {R0:List (List RatD)} (hR0:ValM n (n+1) R0) (hP0:P 0 (vM R0))
 (hsw:∀ p k M M',P p M→p<n→p≤k→k<n→(∀ i j,M' i j=M (swI p k i) j)→P p M')
 (hst:∀ p M,P p M→p<n→M p p ≠ 0→(∀ i k,i<n→i ≠ p→p≤k→k<n+1→Fits (M i p / M p p)∧Fits (M i p / M p p*M p k)∧Fits (M i k - M i p / M p p*M p k)) ∧
  ∀ M',(∀ k,M' p k=M p k)→(∀ i k,i<n→i ≠ p→k<n+1→M' i k=M i k - M i p / M p p*M p k)→P (p+1) M') :
 ∀ p R,p≤n→gsF n R0 p=some R→ValM n (n+1) R∧P p (vM R)∧(∀ i k,i<n→k<p→i ≠ k→vM R i k=0)∧(∀ k,k<p→vM R k k ≠ 0)∧∀ z,Ker n (vM R) z↔Ker n (vM R0) z
 | 0,R,_,h=>by
  simp only [gsF,Option.some.injEq] at h
  subst h
  exact ⟨hR0,hP0,fun i k _ hk=>absurd hk (Nat.not_lt_zero _),fun k hk=>absurd hk (Nat.not_lt_zero _),fun z=>Iff.rfl⟩
 | p+1,R2,hp,h=>by
  simp only [gsF] at h
  split at h
  ·cases h
  ·rename_i R e
   obtain ⟨h1,h2,hz,hpv,hk⟩:=gs_back P hR0 hP0 hsw hst p R (by omega) e
   split at h
   ·cases h
   ·rename_i k ek
    have hk3:=List.find?_some ek
    have hk1:=List.mem_of_find?_eq_some ek
    rw [List.mem_range'_1] at hk1
    have k1:p≤k:=hk1.1
    have k2:k<n:=by omega
    have k3:vM R k p ≠ 0:=fun h0=>by
     have:=(qv_num0 (h1.2 k p k2 (by omega))).2 h0
     simp [this] at hk3
    obtain ⟨s1,s2⟩:=swap_sem h1 (show p<n by omega) k2
    have gp:=hsw p k _ _ h2 (by omega) k1 k2 s2
    have g0:vM (swapL R p k []) p p ≠ 0:=by rw [s2,show swI p k p=k by simp [swI]];exact k3
    have hz2:∀ i j,i<n→j<p→i ≠ j→vM (swapL R p k []) i j=0:=fun i j hi hj hij=>by
     rw [s2]
     refine hz _ j (swI_lt (by omega) k2 hi) hj fun he=>?_
     unfold swI at he
     split at he
     ·omega
     ·split at he <;> omega
    have hpv2:∀ j,j<p→vM (swapL R p k []) j j ≠ 0:=fun j hj=>by
     rw [s2,show swI p k j=j by unfold swI;rw [if_neg (by omega),if_neg (by omega)]];exact hpv j hj
    obtain ⟨f1,f2⟩:=hst p _ gp (by omega) g0
    obtain ⟨R',e',r1,r2,r3⟩:=stF_sem s1 (show p<n by omega) (show p<n+1 by omega) g0 (fun k hk=>hz2 p k (by omega) hk (by omega)) f1
    have:R'=R2:=by rw [e'] at h;exact Option.some.inj h
    subst this
    refine ⟨r1,f2 _ r2 r3,fun i k hi hk hik=>?_,fun k hk=>?_,fun z=>(Ker.step (by omega) r2 r3).trans ((Ker.swap (by omega) k2 s2).trans (hk z))⟩
    ·by_cases hip:i=p
     ·subst hip;rw [r2];exact hz2 i k hi (by omega) hik
     ·rw [r3 i k hi hip (by omega)]
      by_cases hkp:k=p
      ·subst hkp;grind
      ·rw [hz2 i k hi (by omega) hik,hz2 p k (by omega) (by omega) (fun e=>hkp e.symm)];grind
    ·by_cases hkp:k=p
     ·subst hkp;rw [r2];exact g0
     ·rw [r3 k k (by omega) hkp (by omega),hz2 p k (by omega) (by omega) (fun e=>hkp e.symm)]
      have:=hpv2 k (by omega)
      grind
theorem outTo_at {R:List (List RatD)} {n:Nat}:∀ {p:Nat} {l:List RatD},outTo R n p=some l→l.length=p∧∀ i,i<p→(divQ (qx (mx R i) n) (qx (mx R i) i)).2.2=true∧qx l i=rq (divQ (qx (mx R i) n) (qx (mx R i) i))
 | 0,l,h=>by simp only [outTo,Option.some.injEq] at h;subst h;exact ⟨rfl,fun i hi=>absurd hi (Nat.not_lt_zero _)⟩
 | p+1,l,h=>by
  simp only [outTo] at h
  split at h
  ·cases h
  ·rename_i l0 e
   obtain ⟨h1,h2⟩:=outTo_at e
   split at h
   ·rename_i c
    simp only [Option.some.injEq] at h
    subst h
    refine ⟨by rw [List.length_append,h1];rfl,fun i hi=>?_⟩
    by_cases ei:i=p
    ·subst ei
     exact ⟨c,by simp [qx,List.getD,← h1]⟩
    ·refine ⟨(h2 i (by omega)).1,?_⟩
     rw [← (h2 i (by omega)).2]
     simp only [qx,List.getD]
     rw [List.getElem?_append_left (by omega)]
   ·cases h
theorem solF_back {rows:List (List RatD)} {right:List RatD} {n:Nat} (P:Nat→(Nat→Nat→Rat)→Prop) (hn:right.length=n) (hR0:ValM n (n+1) (augF rows right)) (hP0:P 0 (vM (augF rows right)))
 (hsw:∀ p k M M',P p M→p<n→p≤k→k<n→(∀ i j,M' i j=M (swI p k i) j)→P p M')
 (hst:∀ p M,P p M→p<n→M p p ≠ 0→(∀ i k,i<n→i ≠ p→p≤k→k<n+1→Fits (M i p / M p p)∧Fits (M i p / M p p*M p k)∧Fits (M i k - M i p / M p p*M p k)) ∧
  ∀ M',(∀ k,M' p k=M p k)→(∀ i k,i<n→i ≠ p→k<n+1→M' i k=M i k - M i p / M p p*M p k)→P (p+1) M')
 {l:List RatD} (hl:solF rows right=some l):Gs n 0 (vM (augF rows right)) (fun i=>qv (qx l i)):=by
 unfold solF at hl
 rw [hn] at hl
 split at hl
 ·cases hl
 ·rename_i R e
  obtain ⟨h1,_,hz,hpv,hk⟩:=gs_back P hR0 hP0 hsw hst n R (Nat.le_refl _) e
  obtain ⟨l1,l2⟩:=outTo_at hl
  have hrow:∀ (z:Nat→Rat) (i:Nat),i<n→sig (fun k=>vM R i k*z k) (n+1)=vM R i i*z i+vM R i n*z n:=fun z i hi=>by
   simp only [sig]
   have e:sig (fun k=>vM R i k*z k) n=sig (fun k=>(if k=i then vM R i i else 0)*z k) n:=sig_congr fun k hk=>by
    by_cases c:k=i
    ·subst c;rw [if_pos rfl]
    ·rw [if_neg c,hz i k hi hk (fun e=>c e.symm)]
   rw [e,sig_one z i _ n hi]
  refine ⟨fun i k _ hk=>absurd hk (Nat.not_lt_zero _),fun k hk=>absurd hk (Nat.not_lt_zero _),fun d hd j hj=>?_,fun i hi=>?_⟩
  ·have hkz:Ker n (vM (augF rows right)) (fun k=>if k<n then d k else 0):=fun i hi=>by
    simp only [sig]
    rw [if_neg (Nat.lt_irrefl n),sig_congr (g:=fun k=>vM (augF rows right) i k*d k) (fun k hk=>by rw [if_pos hk]),hd i hi]
    grind
   have:=((hk _).2 hkz) j hj
   rw [hrow _ j hj,if_pos hj,if_neg (Nat.lt_irrefl n)] at this
   have h0:=hpv j hj
   have:vM R j j*d j=0:=by grind
   rcases Rat.mul_eq_zero.1 this with h | h
   ·exact absurd h h0
   ·exact h
  ·have hkz:Ker n (vM R) (fun k=>if k<n then qv (qx l k) else -1):=fun i hi=>by
    rw [hrow _ i hi,if_pos hi,if_neg (Nat.lt_irrefl n),(l2 i hi).2]
    obtain ⟨_,_,_,e3⟩:=divQ_ok (l2 i hi).1
    rw [e3]
    have h0:=hpv i hi
    have:=Rat.div_mul_cancel (a:=vM R i n) h0
    have e4:qv (qx (mx R i) n) / qv (qx (mx R i) i)=vM R i n / vM R i i:=rfl
    rw [e4]
    generalize vM R i n / vM R i i=t at *
    grind
   have:=((hk _).1 hkz) i hi
   simp only [sig] at this
   rw [if_neg (Nat.lt_irrefl n),sig_congr (g:=fun k=>vM (augF rows right) i k*qv (qx l k)) (fun k hk=>by rw [if_pos hk])] at this
   grind
def cN:Nat→Nat
 | 0=>1
 | 1=>1
 | 2=>2
 | 3=>8
 | 4=>128
 | _=>32768
def cD:Nat→Nat
 | 0=>1
 | 1=>1
 | 2=>1
 | 3=>2
 | 4=>16
 | _=>2048
def Pc (n p:Nat) (M:Nat→Nat→Rat):Prop:=Crude n (cN p) (cD p) M∧(p=0→∀ i j,i<n→j<n+1→M i j=0∨M i j=1)
theorem crude_int {n B:Nat} {M:Nat→Nat→Rat} (h:IntM n B M):Crude n B 1 M:=fun i hi=>by
 obtain ⟨w,hw⟩:=h
 exact ⟨w i,1,by omega,by omega,fun k hk=>(hw i k hi hk).2,fun k hk=>by rw [(hw i k hi hk).1];grind⟩
theorem pc_swap {n:Nat} (p k:Nat) (M M':Nat→Nat→Rat) (h:Pc n p M) (hp:p<n) (hpk:p≤k) (hk:k<n) (e:∀ i j,M' i j=M (swI p k i) j):Pc n p M' :=
 ⟨h.1.swap hp hk e,fun h0 i j hi hj=>by rw [e];exact h.2 h0 _ j (swI_lt hp hk hi) hj⟩
theorem pc_step {n:Nat} (hn:n≤5) (p:Nat) (M:Nat→Nat→Rat) (h:Pc n p M) (hp:p<n) (h0:M p p ≠ 0) :
 (∀ i k,i<n→i ≠ p→p≤k→k<n+1→Fits (M i p / M p p)∧Fits (M i p / M p p*M p k)∧Fits (M i k - M i p / M p p*M p k)) ∧
  ∀ M',(∀ k,M' p k=M p k)→(∀ i k,i<n→i ≠ p→k<n+1→M' i k=M i k - M i p / M p p*M p k)→Pc n (p+1) M':=by
 have hcr:=h.1.step hp h0
 rcases p with _ | _ | _ | _ | _ | p
 ·obtain ⟨k1,k2⟩:=hcr (by decide) (by decide) (by decide)
  refine ⟨k1,fun M' e1 e2=>⟨?_,fun h=>by omega⟩⟩
  have ho:=(ones_step (k:=0) (h.2 rfl) hp h0).1
  obtain ⟨w,hw⟩:=ho
  refine crude_int ⟨w,fun i k hi hk=>?_⟩
  rw [← (hw i k hi hk).1]
  refine ⟨?_,(hw i k hi hk).2⟩
  by_cases c:i=0
  ·subst c;simp only [if_true];exact e1 k
  ·simp only [c,if_false]
   have:swI 0 0 i=i:=by simp only [swI,c,if_false]
   rw [this];exact e2 i k hi c hk
 ·obtain ⟨k1,k2⟩:=hcr (by decide) (by decide) (by decide)
  exact ⟨k1,fun M' e1 e2=>⟨k2 M' e1 e2,fun h=>by omega⟩⟩
 ·obtain ⟨k1,k2⟩:=hcr (by decide) (by decide) (by decide)
  exact ⟨k1,fun M' e1 e2=>⟨k2 M' e1 e2,fun h=>by omega⟩⟩
 ·obtain ⟨k1,k2⟩:=hcr (by decide) (by decide) (by decide)
  exact ⟨k1,fun M' e1 e2=>⟨k2 M' e1 e2,fun h=>by omega⟩⟩
 ·obtain ⟨k1,k2⟩:=hcr (by decide) (by decide) (by decide)
  exact ⟨k1,fun M' e1 e2=>⟨k2 M' e1 e2,fun h=>by omega⟩⟩
 ·omega
section
variable {n:Nat} (hn:n≤5) {rows:List (List RatD)} {right:List RatD} (hr:right.length=n) (hV:ValM n (n+1) (augF rows right)) (hz:∀ i j,i<n→j<n+1→vM (augF rows right) i j=0∨vM (augF rows right) i j=1)
include hz in
theorem pc_start:Pc n 0 (vM (augF rows right)):=by
 have hz':∀ i j,i<n→j<n+1→∃ w:Int,vM (augF rows right) i j=(w:Rat)∧w.natAbs≤1:=fun i j hi hj=>by
  rcases hz i j hi hj with h | h
  ·exact ⟨0,by rw [h];rfl,by omega⟩
  ·exact ⟨1,by rw [h];rfl,by omega⟩
 exact ⟨crude_int (intM_of hz'),fun _=>hz⟩
include hn hr hV hz
theorem cover_sol {x:Nat→Rat} (hG:Gs n 0 (vM (augF rows right)) x) :
 (∃ l,solF rows right=some l∧l.length=n∧∀ i,i<n→vR (qx l i)=true∧qv (qx l i)=x i)∧∃ (D:Int) (X:Nat→Int),D ≠ 0∧D.natAbs≤34992∧∀ j,j<n→(X j).natAbs≤34992∧x j=(X j:Rat) / (D:Rat):=by
 obtain ⟨D,X,c1,c2,c3⟩:=com01 hn hz hG
 refine ⟨?_,D,X,c1,by omega,fun j hj=>⟨by have:=(c3 j hj).1;omega,(c3 j hj).2⟩⟩
 exact solF_run (Pc n) hr hV (pc_start hz) hG pc_swap (fun p M h hp _ h0=>pc_step hn p M h hp h0) (fun _ _ _ i hi=>by
  rw [(c3 i hi).2]
  exact fits_of c1 (by omega) (by have:=(c3 i hi).1;omega))
theorem cover_back {l:List RatD} (hl:solF rows right=some l):∃ (D:Int) (X:Nat→Int),D ≠ 0∧D.natAbs≤432∧∀ j,j<n→(X j).natAbs≤432∧qv (qx l j)=(X j:Rat) / (D:Rat) :=
 com01 hn hz (solF_back (Pc n) hr hV (pc_start hz) pc_swap (pc_step hn) hl)
end
def S01 (x:RatD):Prop:=x=⟨0,1⟩∨x=⟨1,1⟩
theorem S01.s3 {x:RatD} (h:S01 x):S3 x:=by
 rcases h with rfl | rfl <;> exact ⟨by decide +kernel,⟨by decide,by decide⟩,by decide⟩
theorem S01.v {x:RatD} (h:S01 x):qv x=0∨qv x=1:=by
 rcases h with rfl | rfl
 ·exact .inl qv01.1
 ·exact .inr qv01.2
theorem chosen01 {A:List (List RatD)} {B C:List RatD} (hlp:lpV A B C=true) (ha:∀ i,i<B.length→∀ k,k<C.length→S01 (qx (mx A i) k)) (hb:∀ i,i<B.length→S01 (qx B i)) {L:List Nat} (hl:L.length=C.length) (hL:∀ i∈L,i<B.length+C.length) :
 ((L.map (mx (rowsF A C.length) ·)).length=C.length∧∀ i,i<C.length→(mx (L.map (mx (rowsF A C.length) ·)) i).length=C.length)∧ValM C.length (C.length+1) (augF (L.map (mx (rowsF A C.length) ·)) (L.map (qx (rightF B C.length) ·))) ∧
  ∀ i j,i<C.length→j<C.length+1→vM (augF (L.map (mx (rowsF A C.length) ·)) (L.map (qx (rightF B C.length) ·))) i j=0∨vM (augF (L.map (mx (rowsF A C.length) ·)) (L.map (qx (rightF B C.length) ·))) i j=1:=by
 obtain ⟨⟨c1,c5⟩,_,hm,_,_⟩:=lpV_out hlp
 obtain ⟨m1,m2⟩:=matOK_out hm
 have hrow:∀ i,i<B.length+C.length→(mx (rowsF A C.length) i).length=C.length∧(∀ k,k<C.length→S01 (qx (mx (rowsF A C.length) i) k))∧S01 (qx (rightF B C.length) i):=fun i hi=>by
  by_cases c:i<B.length
  ·rw [rows_lo (by omega),right_lo c]
   exact ⟨(m2 i (by omega)).1,ha i c,hb i c⟩
  ·obtain ⟨j,rfl⟩:∃ j,i=B.length+j:=⟨i - B.length,by omega⟩
   have hj:j<C.length:=by omega
   have e1:mx (rowsF A C.length) (B.length+j)=unitR C.length j:=by rw [← m1];exact rows_hi hj
   rw [e1,right_hi hj]
   refine ⟨by simp [unitR],fun k hk=>?_,.inl rfl⟩
   rw [unit_at hk]
   split
   ·exact .inr rfl
   ·exact .inl rfl
 generalize C.length=n at *
 generalize rowsF A n=rows at *
 generalize rightF B n=right at *
 have hmem:∀ i,i<n→L.getD i 0∈L:=fun i hi=>by
  have:i<L.length:=by omega
  simp [List.getD,this]
 have hT:∀ i,i<n→L.getD i 0<B.length+n:=fun i hi=>hL _ (hmem i hi)
 have er:∀ i,i<n→mx (L.map (mx rows ·)) i=mx rows (L.getD i 0):=fun i hi=>mx_map (by omega)
 have eb:∀ i,i<n→qx (L.map (qx right ·)) i=qx right (L.getD i 0):=fun i hi=>qx_map (by omega)
 have hll:(L.map (mx rows ·)).length=n:=by simp [hl]
 have hlen:∀ i,i<n→(mx (L.map (mx rows ·)) i).length=n:=fun i hi=>by rw [er i hi];exact (hrow _ (hT i hi)).1
 have hV:=aug_val (right:=L.map (qx right ·)) hll hlen (fun i k hi hk=>by rw [er i hi];exact ((hrow _ (hT i hi)).2.1 k hk).s3.1) (fun i hi=>by rw [eb i hi];exact (hrow _ (hT i hi)).2.2.s3.1)
 refine ⟨⟨hll,hlen⟩,hV,fun i j hi hj=>?_⟩
 unfold vM
 rw [aug_at hll hi (hlen i hi) hj]
 split
 ·rename_i hk2;rw [er i hi];exact ((hrow _ (hT i hi)).2.1 j hk2).v
 ·rw [eb i hi];exact (hrow _ (hT i hi)).2.2.v
theorem small_01 {A:List (List RatD)} {B C:List RatD} (hlp:lpV A B C=true) (ha:∀ i,i<B.length→∀ k,k<C.length→S01 (qx (mx A i) k)) (hb:∀ i,i<B.length→S01 (qx B i)) (hc:∀ i,i<C.length→S01 (qx C i)):SmallLp A B C:=by
 obtain ⟨⟨c1,c5⟩,_,hm,_,_⟩:=lpV_out hlp
 obtain ⟨m1,m2⟩:=matOK_out hm
 refine ⟨hlp,m1,fun i hi=>⟨(m2 i (by omega)).1,fun k hk=>(ha i hi k hk).s3⟩,fun i hi=>(hb i hi).s3,fun i hi=>(hc i hi).s3,c5,fun L hL hl x ht hnull=>?_⟩
 have hmr:∀ i∈L,i<B.length+C.length:=fun i hi=>List.mem_range.1 (hL.subset hi)
 obtain ⟨⟨hll,hlen⟩,hV,hz⟩:=chosen01 hlp ha hb hl hmr
 have hmem:∀ i,i<C.length→L.getD i 0∈L:=fun i hi=>by
  have:i<L.length:=by omega
  simp [List.getD,this]
 have er:∀ i,i<C.length→mx (L.map (mx (rowsF A C.length) ·)) i=mx (rowsF A C.length) (L.getD i 0):=fun i hi=>mx_map (by omega)
 have eb:∀ i,i<C.length→qx (L.map (qx (rightF B C.length) ·)) i=qx (rightF B C.length) (L.getD i 0):=fun i hi=>qx_map (by omega)
 refine cover_sol c5 (by simp [hl]) hV hz (gs_start hll hlen (fun d hd=>hnull d fun i hi=>?_) (fun i hi=>?_))
 ·obtain ⟨k,hk,e⟩:=List.getElem_of_mem hi
  have e':L.getD k 0=i:=by simp [List.getD,hk,e]
  have:=hd k (by omega)
  rw [er k (by omega),e'] at this
  exact this
 ·rw [er i hi,eb i hi];exact ht _ (hmem i hi)
theorem foldl_from {A:List (List RatD)} {B Cc:List RatD} {rows:List (List RatD)} {right:List RatD} {sg:Int}:∀ (Ls:List (List Nat)) (o:List (List RatD)) (y:List RatD),y∈Ls.foldl (fun o c=>leafF A B Cc rows right sg c o) o→y∈o∨∃ L∈Ls,solF (L.map (mx rows ·)) (L.map (qx right ·))=some y
 | [],_,_,h=>.inl h
 | c :: Ls,o,y,h=>by
  rcases foldl_from Ls _ y h with h | ⟨L,h1,h2⟩
  ·dsimp only at h
   unfold leafF at h
   split at h
   ·exact .inl h
   ·rename_i x hx
    split at h
    ·split at h
     ·exact .inl h
     ·rcases List.mem_append.1 h with h | h
      ·exact .inl h
      ·rw [List.mem_singleton] at h;subst h
       exact .inr ⟨c,List.mem_cons_self,hx⟩
    ·exact .inl h
  ·exact .inr ⟨L,List.mem_cons_of_mem _ h1,h2⟩
theorem low_terms {x:RatD} (hv:vR x=true) {X D:Int} (hD:D ≠ 0) (h:qv x=(X:Rat) / (D:Rat)) {K:Nat} (hK:1≤K) (h1:D.natAbs≤K) (h2:X.natAbs≤K):x.num.natAbs≤K∧x.den≤(K:Int):=by
 have hd:=vR_pos hv
 have hg:=(ratOK_out hv).2.2
 have e:x.num*D=X*x.den:=by
  have k1:=castNe (d:=x.den) (by omega)
  have k2:=castNe hD
  have m1:=Rat.div_mul_cancel (a:=(x.num:Rat)) k1
  have m2:=Rat.div_mul_cancel (a:=(X:Rat)) k2
  have h':(x.num:Rat) / (x.den:Rat)=(X:Rat) / (D:Rat):=h
  have:(x.num:Rat)*(D:Rat)=(X:Rat)*(x.den:Rat):=by
   generalize (x.num:Rat) / (x.den:Rat)=P at *
   generalize (X:Rat) / (D:Rat)=Q at *
   grind
  exact_mod_cast this
 have en:x.num.natAbs*D.natAbs=X.natAbs*x.den.toNat:=by
  have:=congrArg Int.natAbs e
  rw [Int.natAbs_mul,Int.natAbs_mul] at this
  rw [this,show x.den.natAbs=x.den.toNat by omega]
 have hc:Nat.Coprime x.num.natAbs x.den.toNat:=hg
 have d1:x.den.toNat ∣ D.natAbs:=hc.symm.dvd_of_dvd_mul_left (by rw [en];exact Nat.dvd_mul_left _ _)
 have d2:x.num.natAbs ∣ X.natAbs:=hc.dvd_of_dvd_mul_right (by rw [← en];exact Nat.dvd_mul_right _ _)
 have l1:=Nat.le_of_dvd (by omega) d1
 refine ⟨?_,by omega⟩
 by_cases c:X.natAbs=0
 ·rw [c,Nat.zero_mul] at en
  rcases Nat.mul_eq_zero.1 en with h | h <;> omega
 ·have:=Nat.le_of_dvd (by omega) d2
  omega
theorem vert_01 {A:List (List RatD)} {B C:List RatD} (hlp:lpV A B C=true) (ha:∀ i,i<B.length→∀ k,k<C.length→S01 (qx (mx A i) k)) (hb:∀ i,i<B.length→S01 (qx B i)) {sg:Int} {y:List RatD} (hy:y∈vertF A B C sg) :
 ∃ (D:Int) (X:Nat→Int),D ≠ 0∧D.natAbs≤432∧∀ j,j<C.length→(X j).natAbs≤432∧qv (qx y j)=(X j:Rat) / (D:Rat):=by
 rw [vert_pick hlp] at hy
 rcases foldl_from _ _ _ hy with h | ⟨L,h1,h2⟩
 ·cases h
 ·obtain ⟨l1,l2⟩:=pickF_mem _ _ 0 L h1
  obtain ⟨_,hV,hz⟩:=chosen01 hlp ha hb l1 l2
  obtain ⟨⟨_,c5⟩,_⟩:=lpV_out hlp
  exact cover_back c5 (by simp [l1]) hV hz h2
def sumTo (l:List RatD):Nat→Option RatD
 | 0=>some ⟨0,1⟩
 | k+1=>match sumTo l k with
  | none=>none
  | some s=>if (addQ s (qx l k)).2.2=true then some (rq (addQ s (qx l k))) else none
def sumF (l:List RatD):Option RatD:=sumTo l l.length
theorem sumTo_sig {l:List RatD}:∀ {k:Nat} {s:RatD},sumTo l k=some s→vR s=true∧qv s=sig (fun i=>qv (qx l i)) k
 | 0,s,h=>by
  simp only [sumTo,Option.some.injEq] at h
  subst h
  exact ⟨by decide +kernel,by simp [qv,sig];grind⟩
 | k+1,s,h=>by
  simp only [sumTo] at h
  split at h
  ·cases h
  ·rename_i s0 hs
   split at h
   ·rename_i hc
    simp only [Option.some.injEq] at h
    subst h
    obtain ⟨_,h1⟩:=sumTo_sig hs
    obtain ⟨_,_,h3⟩:=addQ_ok hc
    exact ⟨(fitAdd _ _).1 hc,by simp only [sig];rw [h3,h1]⟩
   ·cases h
theorem sum_fits {l:List RatD} {D:Int} {X:Nat→Int} {K:Nat} (hD:D ≠ 0) (hDb:D.natAbs≤1000000000) (hv:∀ i,i<l.length→vR (qx l i)=true) (hX:∀ i,i<l.length→(X i).natAbs≤K∧qv (qx l i)=(X i:Rat) / (D:Rat)) (hK:l.length*K≤1000000000) :
 ∀ k,k≤l.length→∃ s,sumTo l k=some s∧vR s=true∧∃ w:Int,w.natAbs≤k*K∧qv s=(w:Rat) / (D:Rat)
 | 0,_=>⟨⟨0,1⟩,rfl,by decide,0,by omega,by simp [qv];grind⟩
 | k+1,hk=>by
  obtain ⟨s,e,v,w,hw,hq⟩:=sum_fits hD hDb hv hX hK k (by omega)
  obtain ⟨x1,x2⟩:=hX k (by omega)
  have e2:qv s+qv (qx l k)=((w+X k:Int):Rat) / (D:Rat):=by
   rw [hq,x2,Rat.intCast_add]
   have:=castNe hD
   generalize (D:Rat)=T at *
   grind
  have hb:(w+X k).natAbs≤(k+1)*K:=by rw [Nat.add_mul];omega
  have hb2:=Nat.mul_le_mul_right K hk
  obtain ⟨q1,q2,q3⟩:=addQ_fits v (hv k (by omega)) (by rw [e2];exact fits_of hD hDb (by omega))
  exact ⟨_,by simp only [sumTo,e];exact if_pos q1,q2,w+X k,hb,by rw [q3,e2]⟩
theorem mulQ_one {y:RatD} (h:vR y=true):mulQ ⟨1,1⟩ y=(y.num,y.den,true):=by
 have h':ratOK y.num y.den=true:=h
 obtain ⟨h1,h2,h3⟩:=ratOK_out h
 have hb:bothOK 1 1 y.num y.den=true:=by
  simp only [bothOK,Bool.and_eq_true]
  exact ⟨by decide +kernel,h⟩
 unfold mulQ mulR
 simp only [hb,if_true,Int.one_mul]
 rw [newRat_pos (g:=1) (by omega) (by omega) (by omega) h3]
 simp [h']
theorem dot_ones {y:List RatD} {C:List RatD}:∀ (k:Nat),(∀ i,i<k→qx C i=⟨1,1⟩∧vR (qx y i)=true)→dotTo C y k=sumTo y k
 | 0,_=>rfl
 | k+1,h=>by
  obtain ⟨h1,h2⟩:=h k (by omega)
  simp only [dotTo,sumTo,dot_ones k (fun i hi=>h i (by omega)),h1,mulQ_one h2]
  cases hs:sumTo y k with
  | none=>rfl
  | some s=>simp only [rq,true_and]
theorem qv_inj {x y:RatD} (hx:vR x=true) (hy:vR y=true) (h:qv x=qv y):x=y:=by
 have dx:=vR_pos hx
 have dy:=vR_pos hy
 obtain ⟨_,b1⟩:=low_terms hx (X:=y.num) (D:=y.den) (by omega) h (K:=max y.num.natAbs y.den.toNat) (by omega) (by omega) (by omega)
 have e:x.num*y.den=y.num*x.den:=by
  have k1:=castNe (d:=x.den) (by omega)
  have k2:=castNe (d:=y.den) (by omega)
  have m1:=Rat.div_mul_cancel (a:=(x.num:Rat)) k1
  have m2:=Rat.div_mul_cancel (a:=(y.num:Rat)) k2
  have h':(x.num:Rat) / (x.den:Rat)=(y.num:Rat) / (y.den:Rat):=h
  have:(x.num:Rat)*(y.den:Rat)=(y.num:Rat)*(x.den:Rat):=by
   generalize (x.num:Rat) / (x.den:Rat)=P at *
   generalize (y.num:Rat) / (y.den:Rat)=Q at *
   grind
  exact_mod_cast this
 have en:x.num.natAbs*y.den.toNat=y.num.natAbs*x.den.toNat:=by
  have:=congrArg Int.natAbs e
  rw [Int.natAbs_mul,Int.natAbs_mul] at this
  rw [show x.den.toNat=x.den.natAbs by omega,show y.den.toNat=y.den.natAbs by omega,this]
 have c1:Nat.Coprime x.num.natAbs x.den.toNat:=(ratOK_out hx).2.2
 have c2:Nat.Coprime y.num.natAbs y.den.toNat:=(ratOK_out hy).2.2
 have d1:x.den.toNat ∣ y.den.toNat:=c1.symm.dvd_of_dvd_mul_left (by rw [en];exact Nat.dvd_mul_left _ _)
 have d2:y.den.toNat ∣ x.den.toNat:=c2.symm.dvd_of_dvd_mul_left (by rw [← en];exact Nat.dvd_mul_left _ _)
 have ed:x.den=y.den:=by
  have:=Nat.dvd_antisymm d1 d2
  omega
 have en:x.num=y.num:=by
  rw [ed] at e
  exact Int.eq_of_mul_eq_mul_right (by omega) e
 cases x;cases y
 simp only at ed en
 rw [ed,en]
def lsum (l:List RatD):Rat:=sig (fun i=>qv (qx l i)) l.length
theorem lsum_snoc (l:List RatD) (x:RatD):lsum (l ++ [x])=lsum l+qv x:=by
 unfold lsum
 rw [List.length_append,List.length_singleton]
 simp only [sig]
 have e1:qx (l ++ [x]) l.length=x:=by simp [qx,List.getD]
 rw [e1,sig_congr (g:=fun i=>qv (qx l i)) fun i hi=>by simp only [qx,List.getD];rw [List.getElem?_append_left hi]]
def selB (p:Nat→Bool) (w:List RatD):Nat→List RatD
 | 0=>[]
 | i+1=>if p i=true then selB p w i ++ [qx w i] else selB p w i
theorem selB_mem {p:Nat→Bool} {w:List RatD} {x:RatD}:∀ {n:Nat},x∈selB p w n→∃ i,i<n∧x=qx w i
 | 0,h=>by cases h
 | n+1,h=>by
  simp only [selB] at h
  split at h
  ·rcases List.mem_append.1 h with h | h
   ·obtain ⟨i,h1,h2⟩:=selB_mem h;exact ⟨i,by omega,h2⟩
   ·rw [List.mem_singleton] at h;exact ⟨n,by omega,h⟩
  ·obtain ⟨i,h1,h2⟩:=selB_mem h;exact ⟨i,by omega,h2⟩
theorem selB_len (p:Nat→Bool) (w:List RatD):∀ n:Nat,(selB p w n).length≤n
 | 0=>Nat.le_refl _
 | n+1=>by
  have:=selB_len p w n
  simp only [selB];split
  ·rw [List.length_append,List.length_singleton];omega
  ·omega
theorem selB_sum (p:Nat→Bool) (w:List RatD):∀ n:Nat,lsum (selB p w n)=sig (fun i=>if p i=true then qv (qx w i) else 0) n
 | 0=>rfl
 | n+1=>by
  simp only [selB,sig]
  by_cases h:p n=true
  ·rw [if_pos h,if_pos h,lsum_snoc,selB_sum p w n]
  ·rw [if_neg h,if_neg h,selB_sum p w n];grind
theorem sumF_lsum {l:List RatD} {s:RatD} (h:sumF l=some s):vR s=true∧qv s=lsum l:=sumTo_sig h
theorem sumF_fits {l:List RatD} {D:Int} {K:Nat} (hD:D ≠ 0) (hDb:D.natAbs≤1000000000) (h:∀ x∈l,vR x=true∧∃ X:Int,X.natAbs≤K∧qv x=(X:Rat) / (D:Rat)) (hK:l.length*K≤1000000000):∃ s,sumF l=some s:=by
 obtain ⟨X,hX⟩:=Classical.axiomOfChoice (r:=fun i (X:Int)=>i<l.length→X.natAbs≤K∧qv (qx l i)=(X:Rat) / (D:Rat)) fun i=>by
  by_cases hi:i<l.length
  ·obtain ⟨_,X,h1⟩:=h _ (mem_qx hi)
   exact ⟨X,fun _=>h1⟩
  ·exact ⟨0,fun g=>absurd g hi⟩
 obtain ⟨s,e,_⟩:=sum_fits (X:=X) hD hDb (fun i hi=>(h _ (mem_qx hi)).1) hX hK l.length (Nat.le_refl _)
 exact ⟨s,e⟩
def covB (m n:Nat) (p:Nat→Nat→Bool) (w:List RatD):Bool:=(List.range m).all fun v=>match sumF (selB (p v) w n) with
 | none=>false
 | some s=>!decide (cmpQ s ⟨1,1⟩<0)
def pakB (m n:Nat) (p:Nat→Nat→Bool) (y:List RatD):Bool:=(List.range n).all fun i=>match sumF (selB (fun v=>p v i) y m) with
 | none=>false
 | some s=>!decide (0<cmpQ s ⟨1,1⟩)
def admB (w:List RatD):Bool:=w.all fun x=>vR x && (decide (0≤x.num∧x.num≤1000) && decide (x.den≤1000))
theorem v11:vR ⟨1,1⟩=true:=by decide +kernel
theorem cov_out {m n:Nat} {p:Nat→Nat→Bool} {w:List RatD} (h:covB m n p w=true) {v:Nat} (hv:v<m):1≤sig (fun i=>if p v i=true then qv (qx w i) else 0) n:=by
 have:=List.all_eq_true.1 h v (List.mem_range.2 hv)
 split at this
 ·cases this
 ·rename_i s hs
  obtain ⟨h1,h2⟩:=sumF_lsum hs
  rw [selB_sum] at h2
  rw [← h2,← qv01.2]
  refine (cmpQ_ge h1 v11).1 ?_
  simpa using this
theorem cov_yes {m n:Nat} {p:Nat→Nat→Bool} {w:List RatD} {D:Int} {K:Nat} (hD:D ≠ 0) (hDb:D.natAbs≤1000000000) (hw:∀ i,i<n→vR (qx w i)=true∧∃ X:Int,X.natAbs≤K∧qv (qx w i)=(X:Rat) / (D:Rat)) (hK:n*K≤1000000000)
 (h:∀ v,v<m→1≤sig (fun i=>if p v i=true then qv (qx w i) else 0) n):covB m n p w=true:=List.all_eq_true.2 fun v hv=>by
 obtain ⟨s,hs⟩:=sumF_fits (l:=selB (p v) w n) (K:=K) hD hDb (fun x hx=>by
  obtain ⟨i,hi,rfl⟩:=selB_mem hx
  exact hw i hi) (Nat.le_trans (Nat.mul_le_mul_right K (selB_len _ _ _)) hK)
 obtain ⟨h1,h2⟩:=sumF_lsum hs
 rw [selB_sum] at h2
 rw [hs]
 have:=(cmpQ_ge h1 v11).2 (by rw [qv01.2,h2];exact h v (List.mem_range.1 hv))
 simpa using this
theorem pak_yes {m n:Nat} {p:Nat→Nat→Bool} {y:List RatD} {D:Int} {K:Nat} (hD:D ≠ 0) (hDb:D.natAbs≤1000000000) (hw:∀ i,i<m→vR (qx y i)=true∧∃ X:Int,X.natAbs≤K∧qv (qx y i)=(X:Rat) / (D:Rat)) (hK:m*K≤1000000000)
 (h:∀ i,i<n→sig (fun v=>if p v i=true then qv (qx y v) else 0) m≤1):pakB m n p y=true:=List.all_eq_true.2 fun i hi=>by
 obtain ⟨s,hs⟩:=sumF_fits (l:=selB (fun v=>p v i) y m) (K:=K) hD hDb (fun x hx=>by
  obtain ⟨i,hi,rfl⟩:=selB_mem hx
  exact hw i hi) (Nat.le_trans (Nat.mul_le_mul_right K (selB_len _ _ _)) hK)
 obtain ⟨h1,h2⟩:=sumF_lsum hs
 rw [selB_sum] at h2
 rw [hs]
 have:=(cmpQ_le h1 v11).2 (by rw [qv01.2,h2];exact h i (List.mem_range.1 hi))
 have h3:¬ 0<cmpQ s ⟨1,1⟩:=by omega
 simp [h3]
structure CoverLp (m n:Nat) (p:Nat→Nat→Bool) (A:List (List RatD)) (B C:List RatD):Prop where
 m1:1≤m∧m≤5
 n1:1≤n∧n≤5
 al:A.length=m
 ar:∀ v,v<m→(mx A v).length=n∧∀ i,i<n→qx (mx A v) i=⟨if p v i=true then 1 else 0,1⟩
 b:B=List.replicate m ⟨1,1⟩
 c:C=List.replicate n ⟨1,1⟩
 occ:∀ v,v<m→∃ i,i<n∧p v i=true
theorem qx_rep {n i:Nat} (h:i<n) (x:RatD):qx (List.replicate n x) i=x:=by simp [qx,List.getD,h]
theorem n15_yes {n:Nat} (h:1≤n∧n≤5):n15 n=true:=decide_eq_true (by omega)
theorem sig_ge {f:Nat→Rat} {n i:Nat} (h:∀ k,k<n→0≤f k) (hi:i<n):f i≤sig f n:=by
 have h1:sig (fun k=>(if k=i then (1:Rat) else 0)*f k) n≤sig f n:=sig_le fun k hk=>by
  have:=h k hk
  split <;> grind
 rw [sig_one f i 1 n hi] at h1
 grind
section
variable {m n:Nat} {p:Nat→Nat→Bool} {A:List (List RatD)} {B C:List RatD} (h:CoverLp m n p A B C)
include h
theorem CoverLp.bl:B.length=m:=by rw [h.b];simp
theorem CoverLp.cl:C.length=n:=by rw [h.c];simp
theorem CoverLp.at01 {v i:Nat} (hv:v<m) (hi:i<n):S01 (qx (mx A v) i):=by
 rw [(h.ar v hv).2 i hi]
 split
 ·exact .inr rfl
 ·exact .inl rfl
theorem CoverLp.atv {v i:Nat} (hv:v<m) (hi:i<n):vM A v i=if p v i=true then 1 else 0:=by
 unfold vM
 rw [(h.ar v hv).2 i hi]
 split
 ·exact qv01.2
 ·exact qv01.1
theorem CoverLp.bq {i:Nat} (hi:i<m):qx B i=⟨1,1⟩:=by rw [h.b];exact qx_rep hi _
theorem CoverLp.cq {i:Nat} (hi:i<n):qx C i=⟨1,1⟩:=by rw [h.c];exact qx_rep hi _
theorem CoverLp.lp:lpV A B C=true:=by
 simp only [lpV,Bool.and_eq_true]
 rw [h.bl,h.cl]
 refine ⟨n15_yes h.n1,n15_yes h.m1,?_,vL_yes fun j hj=>?_,vL_yes fun j hj=>?_⟩
 ·simp only [matOK,Bool.and_eq_true]
  refine ⟨decide_eq_true h.al,matOK_rows fun j hj=>?_⟩
  have hj':j<m:=by rw [← h.al];exact hj
  simp only [rowV,Bool.and_eq_true]
  refine ⟨decide_eq_true (h.ar j hj').1,vL_yes fun i hi=>?_⟩
  rw [(h.ar j hj').1] at hi
  exact (h.at01 hj' hi).s3.1
 ·rw [h.bl] at hj;rw [h.bq hj];exact v11
 ·rw [h.cl] at hj;rw [h.cq hj];exact v11
theorem CoverLp.small:SmallLp A B C :=
 small_01 h.lp (fun i hi k hk=>h.at01 (by rw [← h.bl];exact hi) (by rw [← h.cl];exact hk)) (fun i hi=>by rw [h.bl] at hi;rw [h.bq hi];exact .inr rfl) (fun i hi=>by rw [h.cl] at hi;rw [h.cq hi];exact .inr rfl)
theorem CoverLp.tsmall:SmallLp (trQ A C.length) C B :=
 small_01 (tr_lp h.lp) (fun i hi k hk=>by
  rw [tr_at hi (by rw [h.al,← h.bl];exact hk)]
  exact h.at01 (by rw [← h.bl];exact hk) (by rw [← h.cl];exact hi)) (fun i hi=>by rw [h.cl] at hi;rw [h.cq hi];exact .inr rfl) (fun i hi=>by rw [h.bl] at hi;rw [h.bq hi];exact .inr rfl)
theorem CoverLp.rowsum {v:Nat} (hv:v<m) (x:Nat→Rat):sig (fun i=>vM A v i*x i) n=sig (fun i=>if p v i=true then x i else 0) n:=sig_congr fun i hi=>by
 rw [h.atv hv hi];split <;> grind
theorem CoverLp.colsum {i:Nat} (hi:i<n) (y:Nat→Rat):sig (fun v=>vM A v i*y v) m=sig (fun v=>if p v i=true then y v else 0) m:=sig_congr fun v hv=>by
 rw [h.atv hv hi];split <;> grind
theorem CoverLp.feas0:FeasP m n (vM A) (vL' B) (fun _=>1)∧FeasD m n (vM A) (vL' C) (fun _=>0):=by
 refine ⟨⟨fun _ _=>by show (0:Rat)≤1;decide,fun v hv=>?_⟩,fun _ _=>Rat.le_refl,fun i hi=>?_⟩
 ·have e1:vL' B v=1:=by show qv (qx B v)=1;rw [h.bq hv];exact qv01.2
  rw [e1,h.rowsum hv]
  obtain ⟨i,hi,hp⟩:=h.occ v hv
  have:=sig_ge (f:=fun i=>if p v i=true then (1:Rat) else 0) (n:=n) (i:=i) (fun k _=>by split <;> decide) hi
  simpa [hp] using this
 ·have e1:vL' C i=1:=by show qv (qx C i)=1;rw [h.cq hi];exact qv01.2
  rw [e1,sig_const0 (fun k _=>by grind)];decide
theorem CoverLp.mn:mnF A B C=bestF C (vertF A B C 1) 1:=by
 unfold mnF
 refine if_pos ⟨h.lp,posL_of fun i hi=>?_⟩
 rw [h.cl] at hi
 rw [h.cq hi,qv01.2]
 exact ⟨v11,by decide⟩
theorem CoverLp.mx:mxF (trQ A C.length) C B=bestF B (vertF (trQ A C.length) C B (-1)) (-1):=by
 unfold mxF
 refine if_pos ⟨tr_lp h.lp,List.all_eq_true.2 fun v hv=>?_⟩
 have hv':v<m:=by rw [← h.bl];exact List.mem_range.1 hv
 obtain ⟨i,hi,hp⟩:=h.occ v hv'
 have hic:i<C.length:=by rw [h.cl];exact hi
 refine List.any_eq_true.2 ⟨i,List.mem_range.2 (by rw [trq_len];exact hic),?_⟩
 rw [Bool.and_eq_true]
 refine ⟨posL_of fun k hk=>?_,?_⟩
 ·rw [tr_row hic,List.length_map,h.al] at hk
  rw [tr_at hic (by rw [h.al];exact hk)]
  refine ⟨(h.at01 hk hi).s3.1,?_⟩
  rcases (h.at01 hk hi).v with e | e <;> rw [e] <;> decide
 ·rw [tr_at hic (by rw [h.al];exact hv'),(h.ar v hv').2 i hi]
  simp [hp]
def Pt (l:List RatD) (n:Nat):Prop:=l.length=n∧(∀ i,i<n→vR (qx l i)=true∧0≤qv (qx l i))∧∃ (D:Int) (X:Nat→Int),D ≠ 0∧D.natAbs≤432∧∀ j,j<n→(X j).natAbs≤432∧qv (qx l j)=(X j:Rat) / (D:Rat)
omit h in
theorem Pt.adm {l:List RatD} {n:Nat} (h:Pt l n):admB l=true:=List.all_eq_true.2 fun x hx=>by
 obtain ⟨h1,h2,D,X,hD,hDb,hX⟩:=h
 obtain ⟨j,hj,e⟩:=List.getElem_of_mem hx
 have e':qx l j=x:=by simp [qx,List.getD,hj,e]
 have hj':j<n:=by omega
 obtain ⟨g1,g2⟩:=h2 j hj'
 obtain ⟨k1,k2⟩:=low_terms g1 hD (hX j hj').2 (K:=432) (by omega) hDb (hX j hj').1
 have k3:=(qv_nonneg g1).1 g2
 rw [e'] at g1 k1 k2 k3
 simp only [Bool.and_eq_true]
 exact ⟨g1,decide_eq_true (by omega),decide_eq_true (by omega)⟩
omit h in
theorem Pt.sum {l:List RatD} {n:Nat} (h:Pt l n) {C:List RatD} {s:RatD} (hC:C.length=n) (hc:∀ i,i<n→qx C i=⟨1,1⟩) (hs:dotF C l=some s):sumF l=some s:=by
 unfold dotF at hs
 rw [if_pos (by rw [hC,h.1]),hC,dot_ones n (fun i hi=>⟨hc i hi,(h.2.1 i hi).1⟩)] at hs
 unfold sumF
 rw [h.1];exact hs
omit h in
theorem Pt.fits {l:List RatD} {n:Nat} (h:Pt l n):∃ D:Int,D ≠ 0∧D.natAbs≤1000000000∧∀ i,i<n→vR (qx l i)=true∧∃ X:Int,X.natAbs≤432∧qv (qx l i)=(X:Rat) / (D:Rat):=by
 obtain ⟨h1,h2,D,X,hD,hDb,hX⟩:=h
 exact ⟨D,hD,by omega,fun i hi=>⟨(h2 i hi).1,X i,(hX i hi).1,(hX i hi).2⟩⟩
theorem CoverLp.all:(mnF A B C).found=true∧(mxF (trQ A C.length) C B).found=true∧(mnF A B C).val=(mxF (trQ A C.length) C B).val∧feasF A B C (mnF A B C).pt 1=true ∧
 (Pt (mnF A B C).pt n∧sumF (mnF A B C).pt=some (mnF A B C).val∧covB m n p (mnF A B C).pt=true)∧(Pt (mxF (trQ A C.length) C B).pt m∧sumF (mxF (trQ A C.length) C B).pt=some (mxF (trQ A C.length) C B).val∧pakB m n p (mxF (trQ A C.length) C B).pt=true):=by
 have hS:=h.small
 have hT:=h.tsmall
 obtain ⟨f1,f2⟩:=h.feas0
 have bl:=h.bl
 have cl:=h.cl
 obtain ⟨d1,d2,d3,d4,d5⟩:=dual_val hS hT (x0:=fun _=>1) (y0:=fun _=>0) (by rw [bl,cl];exact f1) (by rw [bl,cl];exact f2)
 rw [h.mn,h.mx]
 obtain ⟨p1,p2⟩:=(bestF_ok C (vertF A B C 1) (.inl rfl)).at' d1
 obtain ⟨q1,q2⟩:=(bestF_ok B (vertF (trQ A C.length) C B (-1)) (.inr rfl)).at' d2
 have g1:=vert_feas h.lp _ p1
 have g2:=vert_feas (tr_lp h.lp) _ q1
 obtain ⟨a1,a2,a3⟩:=feas_out (.inl rfl) g1 (fun i hi=>hS.vb hi) hS.la (fun i hi=>(hS.ra i hi).1)
 obtain ⟨b1,b2,b3⟩:=feas_out (.inr rfl) g2 (fun i hi=>hT.vb hi) hT.la (fun i hi=>(hT.ra i hi).1)
 have v1:=vert_01 h.lp (fun i hi k hk=>h.at01 (by omega) (by omega)) (fun i hi=>by rw [bl] at hi;rw [h.bq hi];exact .inr rfl) p1
 have v2:=vert_01 (tr_lp h.lp) (fun i hi k hk=>by
  rw [tr_at hi (by rw [h.al];omega)]
  exact h.at01 (by omega) (by omega)) (fun i hi=>by rw [cl] at hi;rw [h.cq hi];exact .inr rfl) q1
 refine ⟨d1,d2,qv_inj d4 d5 d3,g1,?_,?_⟩
 ·clear q1 q2 g2 b1 b2 b3 v2 d3 d5
  generalize bestF C (vertF A B C 1) 1=M at *
  rw [cl] at a1 a2 a3 v1
  have hP:Pt M.pt n:=⟨a1,a2,v1⟩
  obtain ⟨D,hD,hDb,hX⟩:=hP.fits
  refine ⟨hP,hP.sum cl (fun i hi=>h.cq hi) p2,cov_yes hD hDb hX (by have:=h.n1;omega) fun v hv=>?_⟩
  have:=a3 v (by omega)
  rw [if_pos rfl,h.bq hv,qv01.2,h.rowsum hv] at this
  exact this
 ·clear p1 p2 g1 a1 a2 a3 v1 d3 d4
  generalize bestF B (vertF (trQ A C.length) C B (-1)) (-1)=M at *
  rw [bl] at b1 b2 b3 v2
  have hP:Pt M.pt m:=⟨b1,b2,v2⟩
  obtain ⟨D,hD,hDb,hX⟩:=hP.fits
  refine ⟨hP,hP.sum bl (fun i hi=>h.bq hi) q2,pak_yes hD hDb hX (by have:=h.m1;omega) fun i hi=>?_⟩
  have:=b3 i (by omega)
  rw [if_neg (by decide),h.cq hi,qv01.2,sig_congr fun v hv=>by rw [tr_vM (A:=A) (B:=B) (C:=C) (by rw [h.al,bl]) (by omega) (by omega)],h.colsum hi] at this
  exact this
theorem CoverLp.weak {w:List RatD} (hw:∀ i,i<n→0≤qv (qx w i)) (hc:covB m n p w=true) {s:RatD} (hl:w.length=n) (hs:sumF w=some s):qv (mxF (trQ A C.length) C B).val≤qv s:=by
 obtain ⟨_,_,_,_,_,⟨hP,hy,hpk⟩⟩:=h.all
 have hS:=h.small
 have hT:=h.tsmall
 obtain ⟨f1,f2⟩:=h.feas0
 have bl:=h.bl
 have cl:=h.cl
 obtain ⟨_,d2,_⟩:=dual_val hS hT (x0:=fun _=>1) (y0:=fun _=>0) (by rw [bl,cl];exact f1) (by rw [bl,cl];exact f2)
 rw [h.mx] at hP hy hpk ⊢
 obtain ⟨q1,q2⟩:=(bestF_ok B (vertF (trQ A C.length) C B (-1)) (.inr rfl)).at' d2
 have g2:=vert_feas (tr_lp h.lp) _ q1
 obtain ⟨b1,b2,b3⟩:=feas_out (.inr rfl) g2 (fun i hi=>hT.vb hi) hT.la (fun i hi=>(hT.ra i hi).1)
 generalize bestF B (vertF (trQ A C.length) C B (-1)) (-1)=M at *
 obtain ⟨_,e1⟩:=sumF_lsum hy
 obtain ⟨_,e2⟩:=sumF_lsum hs
 rw [e1,e2]
 have hwd:=weak_dual (m:=m) (n:=n) (A:=vM A) (b:=fun _=>1) (c:=fun _=>1) (x:=fun i=>qv (qx w i)) (y:=fun v=>qv (qx M.pt v)) (fun v hv=>by rw [h.rowsum hv];exact cov_out hc hv) (fun i hi=>by
  have:=b3 i (by omega)
  rw [if_neg (by decide),h.cq hi,qv01.2,bl,sig_congr fun v hv=>by rw [tr_vM (A:=A) (B:=B) (C:=C) (by rw [h.al,bl]) (by omega) (by omega)]] at this
  exact this) hw (fun v hv=>(b2 v (by omega)).2)
 unfold lsum
 rw [hP.1,hl]
 rw [sig_congr (f:=fun v=>1*qv (qx M.pt v)) (g:=fun v=>qv (qx M.pt v)) fun v _=>by grind,sig_congr (f:=fun v=>1*qv (qx w v)) (g:=fun v=>qv (qx w v)) fun v _=>by grind] at hwd
 exact hwd
end
end Go.Proofs.YtkohkoiegmcghaaDoor
namespace Go.Proofs.YtkohkoiegmcghaaDoor
set_option linter.unusedSimpArgs false
set_option linter.unusedVariables false
attribute [local go_sem ↓] reduceIte
attribute [local go_sem] Nat.reduceEqDiff Nat.reduceLT Nat.reduceAdd Nat.reduceLeDiff Nat.reduceMul Nat.reduceBEq Nat.reduceSub reduceCtorEq Int.reduceLE Int.reduceNeg Int.reduceLT
open Go.RowKit
theorem mem_ix {l:List Int} {v:Int}:v∈l↔∃ i,i<l.length∧ix l i=v:=by
 rw [List.mem_iff_getElem]
 constructor
 ·rintro ⟨i,hi,e⟩;exact ⟨i,hi,by rw [ix_lt hi];exact e⟩
 ·rintro ⟨i,hi,e⟩;exact ⟨i,hi,by rw [ix_lt hi] at e;exact e⟩
end Go.Proofs.YtkohkoiegmcghaaDoor
namespace Go.Proofs.YtkohkoiegmcghaaDoor
set_option linter.unusedSimpArgs false
set_option linter.unusedVariables false
open Go.RowKit
structure AtomD where
 nm:ByteArray
 vs:List Int
def atomR:Rep AtomD:=fun fz lo hi w cs x=>∃ a n c,cs=[.string x.nm,.slice a n c]∧x.nm.size≤9223372036854775807∧IntsA fz lo hi w a n c x.vs
theorem atomOK:RepOK atomR :=
 ⟨fun ⟨a,n,c,h1,h2,h3⟩ hk=>⟨a,n,c,h1,h2,h3.keep hk⟩,fun ⟨a,n,c,h1,h2,h3⟩ g1 g2=>⟨a,n,c,h1,h2,h3.wide g1 g2⟩,fun ⟨a,n,c,h1,h2,h3⟩=>⟨a,n,c,h1,h2,h3.read⟩⟩
abbrev AtomsA:=SlA 2 atomR
def ax (xs:List AtomD) (i:Nat):AtomD:=xs.getD i ⟨⟨#[]⟩,[]⟩
theorem ax_lt {xs:List AtomD} {i:Nat} (h:i<xs.length):ax xs i=xs[i]:=by simp [ax,h]
theorem atomsSome {fz:Bool} {lo hi:Nat} {w:World} {a:Option Addr} {n c:Nat} {xs:List AtomD} (h:AtomsA fz lo hi w a n c xs) (hn:0<n):∃ b off,a=some ⟨b,off,none⟩:=by
 obtain ⟨b,off,ha,_⟩:=h.open hn
 exact ⟨b,off,ha⟩
theorem atomsAt {fz:Bool} {lo hi:Nat} {w:World} {b off n c:Nat} {xs:List AtomD} (h:AtomsA fz lo hi w (some ⟨b,off,none⟩) n c xs) {i:Nat} (hi':i<n) :
 lo≤b∧b<hi∧(ax xs i).nm.size≤9223372036854775807∧∃ ra rn rc,w.cell? ⟨b,off+i*2,none⟩=some (.string (ax xs i).nm)∧w.cell? ⟨b,off+i*2+1,none⟩=some (.slice ra rn rc)∧IntsA fz lo hi w ra rn rc (ax xs i).vs ∧
  (fz=true→w.frozen? ⟨b,off+i*2,none⟩=false∧w.frozen? ⟨b,off+i*2+1,none⟩=false):=by
 obtain ⟨b',off',ha,hl,hb,hc⟩:=h.open (by omega)
 simp only [Option.some.injEq,Addr.mk.injEq,and_true] at ha
 obtain ⟨rfl,rfl⟩:=ha
 obtain ⟨cs,x,g1,g2,⟨ra,rn,rc,rfl,g3,g5⟩,g4⟩:=hc i hi'
 have k0:=g4 0 (by omega)
 have k1:=g4 1 (by omega)
 have hx:ax xs i=x:=by simp [ax,g2]
 rw [hx]
 exact ⟨hl,hb,g3,ra,rn,rc,by simpa using k0.1,by simpa using k1.1,g5,fun hf=>⟨by simpa using k0.2 hf,by simpa using k1.2 hf⟩⟩
abbrev atomV (s:ByteArray) (a:Option Addr) (n c:Nat):Value:=.agg #[.string s,.slice a n c]
section
variable {fz:Bool} {lo hi B lo':Nat} {w w':World} {s:ByteArray} {a:Option Addr} {n c:Nat} {xs:List Int}
end
end Go.Proofs.YtkohkoiegmcghaaDoor
namespace Go.Proofs.YtkohkoiegmcghaaDoor
set_option linter.unusedSimpArgs false
set_option linter.unusedVariables false
open Go.RowKit
noncomputable def occ (xs:List Int) (v:Int):Bool:=decide (0≤findF xs v)
theorem occ_at {xs:List Int} {v:Int} {i:Nat} (hi:i<xs.length) (h:ix xs i=v) (hn:∀ j,j<i→ix xs j ≠ v):occ xs v=true:=by
 unfold occ;rw [findF_eq hi h hn];simp
theorem occ_none {xs:List Int} {v:Int} (h:∀ i,i<xs.length→ix xs i ≠ v):occ xs v=false:=by
 unfold occ;rw [findF_none h];simp
set_option maxHeartbeats 800000 in
theorem implHasVar {fz:Bool} {lo hi:Nat} (s:ByteArray) (a:Option Addr) (n c:Nat) (xs:List Int) (v:Int) (w:World) (hI:IntsA fz lo hi w a n c xs) (hh:hi≤w.heap.size) :
 Calls Tryd.prog 30 #[atomV s a n c,.int .i64 v] w (Leaves w (.bool (occ xs v))):=by
 go_enter Tryd.func30,Tryd.ntmps30
 go_wp2_with fail
 refine (implHasInt a n c xs v _ (beInts (B:=w.heap.size) hI belA hh)).mono ?_
 rintro e w1 ⟨rfl,m1,rfl⟩
 go_wp2_with fail
 go_ret
 exact ⟨rfl,belA⟩
set_option maxHeartbeats 800000 in
theorem specHasVar {fz:Bool} {lo hi:Nat} (s:ByteArray) (a:Option Addr) (n c:Nat) (xs:List Int) (v:Int) (w:World) (hI:IntsA fz lo hi w a n c xs) (hh:hi≤w.heap.size) :
 Calls Tryd.prog 32 #[atomV s a n c,.int .i64 v] w (Leaves w (.bool (occ xs v))):=by
 have hl:=hI.len
 have hs:=hI.small
 have HL:=hid hl;clear hl
 obtain ⟨W,hW⟩:∃ W,W=w.alloc (.cells #[.string s,.slice a n c] 57):=⟨_,rfl⟩
 have hBW:Below w.heap.size w W:=by rw [hW];exact belA
 have c1:W.cell? ⟨w.heap.size,1,none⟩=some (.slice a n c):=by rw [hW];simp
 have hIW:=beInts hI hBW hh
 have HW:=hid (And.intro hW hBW);clear hW hBW hI
 go_enter Tryd.func32,Tryd.ntmps32
 go_upto_region 1 with fail
 rw [← HW.out.1]
 go_wp2_with fail
 go_loop [5] (fun i=>∃ k:Nat,i=.int .i64 k∧k≤n∧Hid (∀ j,j<k→ix xs j ≠ v)) (fun i=>n - (intOf i).toNat)
 case atStart=>exact ⟨0,rfl,by omega,hid (fun j hj=>by omega)⟩
 case round =>
  obtain ⟨k,rfl,hk,HT⟩:=hrel
  by_cases hlt:k<n
  ·obtain ⟨b,off,rfl,_,_,hc,_⟩:=hIW.open (by omega)
   have c2:=hc k hlt
   clear hc
   generalize hx:ix xs k=x at *
   have HX:=hid hx;clear hx
   by_cases he:x=v
   ·have hb:(x == v)=true:=by simp [he]
    have HF:=hid (occ_at (xs:=xs) (v:=v) (i:=k) (by rw [HL.out];exact hlt) (by rw [HX.out];exact he) HT.out)
    have HE:=hid he;clear he
    go_wp2_with fail
    go_ret
    exact ⟨by rw [HF.out];rfl,HW.out.2⟩
   ·have hb:(x == v)=false:=by simp [he]
    have HT2:Hid (∀ j,j<k+1→ix xs j ≠ v):=hid (fun j hj=>by
     by_cases e:j=k
     ·subst e;rw [HX.out];exact he
     ·exact HT.out j (by omega))
    have HE:=hid he;clear he
    go_wp2_with fail
    go_round
    case rel=>exact ⟨k+1,by go_num,by omega,HT2⟩
    case measure=>simp [intOf];omega
  ·have HF:=hid (occ_none (xs:=xs) (v:=v) (by rw [HL.out];intro j hj;exact HT.out j (by omega)))
   go_wp2_with fail
   go_ret
   exact ⟨by rw [HF.out];rfl,HW.out.2⟩
noncomputable def avTo (xs:List Int):Nat→List Int
 | 0=>[]
 | k+1=>if occ xs k=true then avTo xs k ++ [(k:Int)] else avTo xs k
end Go.Proofs.YtkohkoiegmcghaaDoor
namespace Go.Proofs.YtkohkoiegmcghaaDoor
set_option linter.unusedSimpArgs false
set_option linter.unusedVariables false
open Go.RowKit
def sx (s:ByteArray) (i:Nat):Int:=if h:i<s.size then (s[i].toNat:Int) else 0
theorem sx_lt {s:ByteArray} {i:Nat} (h:i<s.size):sx s i=(s[i].toNat:Int):=by simp [sx,h]
def LetTo (s:ByteArray) (k:Nat):Prop:=∀ i,i<k→97≤sx s i∧sx s i≤122
open Classical in
noncomputable def nameOK (s:ByteArray):Bool:=decide ((1≤s.size∧s.size≤4)∧LetTo s s.size)
theorem nameOK_size {s:ByteArray} (h:¬ (1≤s.size∧s.size≤4)):nameOK s=false:=by simp only [nameOK,decide_eq_false_iff_not];exact fun g=>h g.1
theorem nameOK_let {s:ByteArray} {i:Nat} (hi:i<s.size) (h:¬ (97≤sx s i∧sx s i≤122)):nameOK s=false:=by simp only [nameOK,decide_eq_false_iff_not];exact fun g=>h (g.2 i hi)
theorem nameOK_yes {s:ByteArray} (h:1≤s.size∧s.size≤4) (h2:LetTo s s.size):nameOK s=true:=by simp only [nameOK,decide_eq_true_eq];exact ⟨h,h2⟩
set_option maxHeartbeats 800000 in
theorem implLetters (s:ByteArray) (w:World) (hs:s.size≤9223372036854775807):Calls Tryd.prog 71 #[.string s,.int .i64 4] w (Leaves w (.bool (nameOK s))):=by
 by_cases h1:1≤s.size∧s.size≤4
 ·obtain ⟨h1a,h1b⟩:=h1
  go_enter Tryd.func71,Tryd.ntmps71
  go_wp2_with fail
  go_loop [5] (fun i=>∃ k:Nat,i=.int .i64 k∧k≤s.size∧Hid (LetTo s k)) (fun i=>s.size - (intOf i).toNat)
  case atStart=>exact ⟨0,rfl,Nat.zero_le _,hid (fun i hi=>by omega)⟩
  case round =>
   obtain ⟨k,rfl,hk,HT⟩:=hrel
   by_cases hlt:k<s.size
   ·have HX:=hid (sx_lt hlt)
    by_cases g1:(s[k].toNat:Int)<97
    ·have HF:=hid (nameOK_let hlt (fun g=>by rw [HX.out] at g;omega))
     go_wp2_with fail
     go_ret
     exact ⟨by rw [HF.out];rfl,belA⟩
    ·by_cases g2:122<(s[k].toNat:Int)
     ·have HF:=hid (nameOK_let hlt (fun g=>by rw [HX.out] at g;omega))
      go_wp2_with fail
      go_ret
      exact ⟨by rw [HF.out];rfl,belA⟩
     ·have HT2:Hid (LetTo s (k+1)):=hid (fun i hi=>by
       by_cases e:i=k
       ·subst e;rw [HX.out];omega
       ·exact HT.out i (by omega))
      go_wp2_with fail
      go_round
      case rel=>exact ⟨k+1,by go_num,by omega,HT2⟩
      case measure=>simp [intOf];omega
   ·have HF:=hid (nameOK_yes ⟨h1a,h1b⟩ (by intro i hi;exact HT.out i (by omega)))
    go_wp2_with fail
    go_ret
    exact ⟨by rw [HF.out];rfl,belA⟩
 ·have HF:=hid (nameOK_size h1)
  by_cases h2:s.size<1
  ·go_enter Tryd.func71,Tryd.ntmps71
   go_wp2_with fail
   go_ret
   exact ⟨by rw [HF.out];rfl,belA⟩
  ·have h3:4<s.size:=by omega
   clear h1
   go_enter Tryd.func71,Tryd.ntmps71
   go_wp2_with fail
   go_ret
   exact ⟨by rw [HF.out];rfl,belA⟩
theorem implName (s:ByteArray) (w:World) (hs:s.size≤9223372036854775807):Calls Tryd.prog 58 #[.string s] w (Leaves w (.bool (nameOK s))):=by
 go_enter Tryd.func58,Tryd.ntmps58
 go_wp2_with fail
 refine (implLetters s _ hs).mono ?_
 rintro e w1 ⟨rfl,hb1⟩
 go_wp2_with fail
 go_ret
 exact ⟨rfl,hb1⟩
set_option maxHeartbeats 800000 in
theorem specName (s:ByteArray) (w:World) (hs:s.size≤9223372036854775807):Calls Tryd.prog 42 #[.string s] w (Leaves w (.bool (nameOK s))):=by
 go_enter Tryd.func42,Tryd.ntmps42
 go_wp2_with fail
 go_loop [3] (fun i=>∃ k:Nat,i=.int .i64 k∧k≤s.size∧Hid (LetTo s k)) (fun i=>s.size - (intOf i).toNat)
 case atStart=>exact ⟨0,rfl,Nat.zero_le _,hid (fun i hi=>by omega)⟩
 case round =>
  obtain ⟨k,rfl,hk,HT⟩:=hrel
  by_cases hlt:k<s.size
  ·have HX:=hid (sx_lt hlt)
   by_cases g1:(s[k].toNat:Int)<97
   ·have HF:=hid (nameOK_let hlt (fun g=>by rw [HX.out] at g;omega))
    go_wp2_with fail
    go_ret
    exact ⟨by rw [HF.out];rfl,belA⟩
   ·by_cases g2:122<(s[k].toNat:Int)
    ·have HF:=hid (nameOK_let hlt (fun g=>by rw [HX.out] at g;omega))
     go_wp2_with fail
     go_ret
     exact ⟨by rw [HF.out];rfl,belA⟩
    ·have HT2:Hid (LetTo s (k+1)):=hid (fun i hi=>by
      by_cases e:i=k
      ·subst e;rw [HX.out];omega
      ·exact HT.out i (by omega))
     go_wp2_with fail
     go_round
     case rel=>exact ⟨k+1,by go_num,by omega,HT2⟩
     case measure=>simp [intOf];omega
  ·have hT:LetTo s s.size:=fun i hi=>HT.out i (by omega)
   have HTT:=hid hT;clear hT
   obtain ⟨d,hd⟩:∃ d,decide ((1:Int)≤s.size∧(s.size:Int)≤4)=d:=⟨_,rfl⟩
   have HD:=hid hd;clear hd
   have HF:Hid (nameOK s=d):=hid (by
    rw [← HD.out]
    by_cases h:1≤s.size∧s.size≤4
    ·rw [nameOK_yes h HTT.out];symm;simp;omega
    ·rw [nameOK_size h];symm;simp;omega)
   go_wp2_with fail
   refine (specIn s.size 1 4 _).mono ?_
   rintro e w1 ⟨rfl,m1,rfl⟩
   rw [HD.out]
   go_wp2_with fail
   go_ret
   exact ⟨by rw [HF.out];rfl,belA⟩
end Go.Proofs.YtkohkoiegmcghaaDoor
