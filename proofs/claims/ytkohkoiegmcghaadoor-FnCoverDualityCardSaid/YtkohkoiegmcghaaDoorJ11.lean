/- Lemmas for the proof of FnCoverDuality, part 11 of 26: no condition of their own. -/
import Derived.Test.YtkohkoiegmcghaaDoorJ8
import Derived.Test.YtkohkoiegmcghaaDoorJ9
namespace Go.Proofs.YtkohkoiegmcghaaDoor
set_option linter.unusedSimpArgs false
set_option linter.unusedVariables false
open Go.RowKit
def qv (x:RatD):Rat:=(x.num:Rat) / (x.den:Rat)
theorem castNe {d:Int} (h:d ≠ 0):(d:Rat) ≠ 0:=fun e=>h (by exact_mod_cast e)
theorem castPos {d:Int} (h:0<d):(0:Rat)<(d:Rat):=by exact_mod_cast h
theorem vR_pos {x:RatD} (h:vR x=true):0<x.den:=by have:=(ratOK_out h).1;omega
theorem div_gcd (n d:Int) (hd:0<d):∃ g:Nat,Nat.gcd n.natAbs d.toNat=g∧0<g∧(g:Int)*n.tdiv g=n∧(g:Int)*d.tdiv g=d∧0<d.tdiv g∧Nat.gcd (n.tdiv g).natAbs (d.tdiv g).toNat=1:=by
 refine ⟨_,rfl,Nat.gcd_pos_of_pos_right _ (by omega),?_,?_,?_,?_⟩
 ·have h:((Nat.gcd n.natAbs d.toNat:Nat):Int) ∣ n:=Int.ofNat_dvd_left.2 (Nat.gcd_dvd_left _ _)
  exact Int.mul_tdiv_cancel' h
 ·have h:((Nat.gcd n.natAbs d.toNat:Nat):Int) ∣ d:=Int.ofNat_dvd_left.2 (by have:=Nat.gcd_dvd_right n.natAbs d.toNat;rwa [show d.natAbs=d.toNat by omega])
  exact Int.mul_tdiv_cancel' h
 ·have h:((Nat.gcd n.natAbs d.toNat:Nat):Int) ∣ d:=Int.ofNat_dvd_left.2 (by have:=Nat.gcd_dvd_right n.natAbs d.toNat;rwa [show d.natAbs=d.toNat by omega])
  have e:=Int.mul_tdiv_cancel' h
  have hg:0<Nat.gcd n.natAbs d.toNat:=Nat.gcd_pos_of_pos_right _ (by omega)
  refine Int.not_le.1 fun hle=>?_
  have:=Int.mul_nonpos_of_nonneg_of_nonpos (a:=((Nat.gcd n.natAbs d.toNat:Nat):Int)) (by omega) hle
  omega
 ·have hg:0<Nat.gcd n.natAbs d.toNat:=Nat.gcd_pos_of_pos_right _ (by omega)
  have h1:(n.tdiv (Nat.gcd n.natAbs d.toNat:Nat)).natAbs=n.natAbs / Nat.gcd n.natAbs d.toNat:=by rw [Int.natAbs_tdiv];rfl
  have h2:(d.tdiv (Nat.gcd n.natAbs d.toNat:Nat)).toNat=d.toNat / Nat.gcd n.natAbs d.toNat:=by
   rw [Int.tdiv_eq_ediv_of_nonneg (by omega)]
   have e:d=(d.toNat:Int):=by omega
   generalize d.toNat=m at *
   subst e
   rw [← Int.natCast_ediv]
   rfl
  rw [h1,h2]
  rw [Nat.gcd_div (Nat.gcd_dvd_left _ _) (Nat.gcd_dvd_right _ _),Nat.div_self hg]
theorem frac_red {n d a b g:Int} (hg:0<g) (hb:0<b) (h1:g*a=n) (h2:g*b=d):(a:Rat) / (b:Rat)=(n:Rat) / (d:Rat):=by
 subst h1;subst h2
 have:=castNe (d:=g) (by omega)
 have:=castNe (d:=b) (by omega)
 rw [Rat.intCast_mul,Rat.intCast_mul]
 grind
theorem newRat_v {n d:Int} (h:(newRat n d).2.2=true):d ≠ 0∧qv (rq (newRat n d))=(n:Rat) / (d:Rat):=by
 by_cases hc:d=0∨¬ (-4000000000000000000≤n∧n≤4000000000000000000)∨¬ (-4000000000000000000≤d∧d≤4000000000000000000)
 ·unfold newRat at h;rw [if_pos hc] at h;cases h
 ·refine ⟨by omega,?_⟩
  by_cases h0:0<d
  ·obtain ⟨g,hg,hg0,e1,e2,hb,_⟩:=div_gcd n d h0
   rw [newRat_pos h0 (by omega) (by omega) hg] at h ⊢
   split at h
   ·rename_i hok
    rw [if_pos hok]
    exact frac_red (g:=g) (by omega) hb e1 e2
   ·cases h
  ·have h0:d<0:=by omega
   obtain ⟨g,hg,hg0,e1,e2,hb,_⟩:=div_gcd (-n) (-d) (by omega)
   rw [newRat_neg h0 (by omega) (by omega) hg] at h ⊢
   split at h
   ·rename_i hok
    rw [if_pos hok]
    have:=frac_red (g:=g) (by omega) hb e1 e2
    simp only [qv,rq]
    rw [this,Rat.intCast_neg,Rat.intCast_neg]
    have:=castNe (d:=d) (by omega)
    grind
   ·cases h
theorem newRat_fit {n d a b:Int} (hd:d ≠ 0) (h1:-4000000000000000000≤n∧n≤4000000000000000000) (h2:-4000000000000000000≤d∧d≤4000000000000000000) (hb:1≤b∧b≤1000000000) (ha:-1000000000≤a∧a≤1000000000) (e:n*b=a*d):(newRat n d).2.2=true:=by
 have key:∀ n d:Int,0<d→n*b=a*d→∀ g:Nat,Nat.gcd n.natAbs d.toNat=g→ratOK (n.tdiv g) (d.tdiv g)=true:=by
  intro n d hd e g hg
  obtain ⟨g',hg',hg0,e1,e2,hq,hc⟩:=div_gcd n d hd
  rw [hg] at hg'
  subst hg'
  generalize n.tdiv g=p at *
  generalize d.tdiv g=q at *
  have e3:p*b=a*q:=by
   have:(g:Int)*(p*b)=g*(a*q):=by rw [← Int.mul_assoc,e1,e,← Int.mul_assoc,Int.mul_comm (g:Int) a,Int.mul_assoc,e2]
   exact Int.eq_of_mul_eq_mul_left (by omega) this
  have hqb:q.toNat ∣ b.toNat:=by
   have h3:q.toNat ∣ p.natAbs*b.toNat:=by
    have:(p*b).natAbs=p.natAbs*b.toNat:=by rw [Int.natAbs_mul];congr 1;omega
    rw [← this,e3,Int.natAbs_mul,show q.natAbs=q.toNat by omega]
    exact Nat.dvd_mul_left _ _
   exact Nat.Coprime.dvd_of_dvd_mul_left (by rw [Nat.coprime_iff_gcd_eq_one,Nat.gcd_comm];exact hc) h3
  obtain ⟨k,hk⟩:=hqb
  have hkb:b=q*k:=by
   have:(b.toNat:Int)=(q.toNat*k:Nat):=by rw [hk]
   rw [Int.natCast_mul] at this
   rw [show ((q.toNat:Nat):Int)=q by omega] at this
   omega
  have hk0:0<k:=by
   rcases Nat.eq_zero_or_pos k with h | h
   ·subst h;simp at hkb;omega
   ·exact h
  have hpa:p*k=a:=by
   rw [hkb] at e3
   have:q*(p*k)=q*a:=by rw [← Int.mul_assoc,Int.mul_comm q p,Int.mul_assoc,e3,Int.mul_comm]
   exact Int.eq_of_mul_eq_mul_left (by omega) this
  have hq1:q≤b:=by
   rw [hkb]
   have:=Int.mul_le_mul_of_nonneg_left (show (1:Int)≤k by omega) (show 0≤q by omega)
   omega
  have hp1:p.natAbs≤a.natAbs:=by
   rw [← hpa,Int.natAbs_mul]
   exact Nat.le_mul_of_pos_right _ (by omega)
  simp only [ratOK,Bool.and_eq_true,decide_eq_true_eq]
  exact ⟨by omega,by omega,hc⟩
 by_cases h0:0<d
 ·rw [newRat_pos h0 (by omega) h1 rfl,if_pos (key n d h0 e _ rfl)]
 ·rw [newRat_neg (by omega) (by omega) h1 rfl,if_pos (key (-n) (-d) (by omega) (by rw [Int.neg_mul,e,Int.mul_neg]) _ rfl)]
section
variable {x y:RatD}
theorem addQ_ok (h:(addQ x y).2.2=true):vR x=true∧vR y=true∧qv (rq (addQ x y))=qv x+qv y:=by
 unfold addQ addR at h ⊢
 split at h
 ·rename_i hb
  obtain ⟨b1,b2⟩:=bothOK_out hb
  refine ⟨b1,b2,?_⟩
  rw [if_pos hb,(newRat_v h).2]
  have:=castNe (d:=x.den) (by have:=(ratOK_b b1).2.2;omega)
  have:=castNe (d:=y.den) (by have:=(ratOK_b b2).2.2;omega)
  simp only [qv,Rat.intCast_mul,Rat.intCast_add]
  grind
 ·cases h
theorem mulQ_ok (h:(mulQ x y).2.2=true):vR x=true∧vR y=true∧qv (rq (mulQ x y))=qv x*qv y:=by
 unfold mulQ mulR at h ⊢
 split at h
 ·rename_i hb
  obtain ⟨b1,b2⟩:=bothOK_out hb
  refine ⟨b1,b2,?_⟩
  rw [if_pos hb,(newRat_v h).2]
  have:=castNe (d:=x.den) (by have:=(ratOK_b b1).2.2;omega)
  have:=castNe (d:=y.den) (by have:=(ratOK_b b2).2.2;omega)
  simp only [qv,Rat.intCast_mul]
  grind
 ·cases h
theorem divQ_ok (h:(divQ x y).2.2=true):vR x=true∧vR y=true∧y.num ≠ 0∧qv (rq (divQ x y))=qv x / qv y:=by
 unfold divQ divR at h ⊢
 split at h
 ·rename_i hb
  obtain ⟨b1,b2⟩:=bothOK_out hb
  have hv:=newRat_v h
  have h0:y.num ≠ 0:=fun e=>hv.1 (by rw [e,Int.mul_zero])
  refine ⟨b1,b2,h0,?_⟩
  rw [if_pos hb,hv.2]
  have:=castNe (d:=x.den) (by have:=(ratOK_b b1).2.2;omega)
  have:=castNe (d:=y.den) (by have:=(ratOK_b b2).2.2;omega)
  have:=castNe h0
  simp only [qv,Rat.intCast_mul]
  grind
 ·cases h
theorem subQ_ok (h:(subQ x y).2.2=true):vR x=true∧vR y=true∧qv (rq (subQ x y))=qv x - qv y:=by
 unfold subQ subR addR at h ⊢
 split at h
 ·rename_i hb
  obtain ⟨b1,b2⟩:=bothOK_out hb
  rw [ratOK_neg] at b2
  refine ⟨b1,b2,?_⟩
  rw [if_pos hb,(newRat_v h).2]
  have:=castNe (d:=x.den) (by have:=(ratOK_b b1).2.2;omega)
  have:=castNe (d:=y.den) (by have:=(ratOK_b b2).2.2;omega)
  simp only [qv,Rat.intCast_mul,Rat.intCast_add,Rat.intCast_neg]
  grind
 ·cases h
end
theorem addQ_fit {x y:RatD} {a b:Int} (hx:vR x=true) (hy:vR y=true) (hb:1≤b∧b≤1000000000) (ha:-1000000000≤a∧a≤1000000000) (e:qv x+qv y=(a:Rat) / (b:Rat)):(addQ x y).2.2=true:=by
 have hB:bothOK x.num x.den y.num y.den=true:=by simp only [bothOK,Bool.and_eq_true];exact ⟨hx,hy⟩
 unfold addQ addR
 rw [if_pos hB]
 obtain ⟨k1,k2,k3⟩:=ratOK_b hx
 obtain ⟨l1,l2,l3⟩:=ratOK_b hy
 have m1:=mul_bd k1 l2
 have m2:=mul_bd l1 k2
 have m3:=mul_bd k2 l2
 have hd:x.den*y.den ≠ 0:=Int.mul_ne_zero (by omega) (by omega)
 refine newRat_fit hd (by omega) (by omega) hb ha ?_
 have c1:=castNe (d:=x.den) (by omega)
 have c2:=castNe (d:=y.den) (by omega)
 have c3:=castNe (d:=b) (by omega)
 have:(((x.num*y.den+y.num*x.den)*b:Int):Rat)=((a*(x.den*y.den):Int):Rat):=by
  simp only [qv] at e
  simp only [Rat.intCast_mul,Rat.intCast_add]
  grind
 exact_mod_cast this
theorem mulQ_fit {x y:RatD} {a b:Int} (hx:vR x=true) (hy:vR y=true) (hb:1≤b∧b≤1000000000) (ha:-1000000000≤a∧a≤1000000000) (e:qv x*qv y=(a:Rat) / (b:Rat)):(mulQ x y).2.2=true:=by
 have hB:bothOK x.num x.den y.num y.den=true:=by simp only [bothOK,Bool.and_eq_true];exact ⟨hx,hy⟩
 unfold mulQ mulR
 rw [if_pos hB]
 obtain ⟨k1,k2,k3⟩:=ratOK_b hx
 obtain ⟨l1,l2,l3⟩:=ratOK_b hy
 have m1:=mul_bd k1 l1
 have m3:=mul_bd k2 l2
 refine newRat_fit (Int.mul_ne_zero (by omega) (by omega)) (by omega) (by omega) hb ha ?_
 have c1:=castNe (d:=x.den) (by omega)
 have c2:=castNe (d:=y.den) (by omega)
 have c3:=castNe (d:=b) (by omega)
 have:(((x.num*y.num)*b:Int):Rat)=((a*(x.den*y.den):Int):Rat):=by
  simp only [qv] at e
  simp only [Rat.intCast_mul]
  grind
 exact_mod_cast this
theorem qv_neg (x:RatD):qv ⟨-x.num,x.den⟩ = - qv x:=by simp only [qv,Rat.intCast_neg];grind
theorem subQ_fit {x y:RatD} {a b:Int} (hx:vR x=true) (hy:vR y=true) (hb:1≤b∧b≤1000000000) (ha:-1000000000≤a∧a≤1000000000) (e:qv x - qv y=(a:Rat) / (b:Rat)):(subQ x y).2.2=true :=
 addQ_fit (y:=⟨-y.num,y.den⟩) hx (by unfold vR;rw [ratOK_neg];exact hy) hb ha (by rw [qv_neg,← e];grind)
theorem divQ_fit {x y:RatD} {a b:Int} (hx:vR x=true) (hy:vR y=true) (h0:y.num ≠ 0) (hb:1≤b∧b≤1000000000) (ha:-1000000000≤a∧a≤1000000000) (e:qv x / qv y=(a:Rat) / (b:Rat)):(divQ x y).2.2=true:=by
 have hB:bothOK x.num x.den y.num y.den=true:=by simp only [bothOK,Bool.and_eq_true];exact ⟨hx,hy⟩
 unfold divQ divR
 rw [if_pos hB]
 obtain ⟨k1,k2,k3⟩:=ratOK_b hx
 obtain ⟨l1,l2,l3⟩:=ratOK_b hy
 have m1:=mul_bd k1 l2
 have m3:=mul_bd k2 l1
 refine newRat_fit (Int.mul_ne_zero (by omega) h0) (by omega) (by omega) hb ha ?_
 have c1:=castNe (d:=x.den) (by omega)
 have c2:=castNe (d:=y.den) (by omega)
 have c3:=castNe (d:=b) (by omega)
 have c4:=castNe h0
 have:(((x.num*y.den)*b:Int):Rat)=((a*(x.den*y.num):Int):Rat):=by
  simp only [qv] at e
  simp only [Rat.intCast_mul]
  grind
 exact_mod_cast this
theorem qv_lt {x y:RatD} (hx:0<x.den) (hy:0<y.den):qv x<qv y↔x.num*y.den<y.num*x.den:=by
 have c1:=castPos hx
 have c2:=castPos hy
 simp only [qv]
 rw [Rat.div_lt_iff c1]
 have e:(y.num:Rat) / (y.den:Rat)*(x.den:Rat)=((y.num*x.den:Int):Rat) / (y.den:Rat):=by rw [Rat.intCast_mul];grind
 rw [e,Rat.lt_div_iff c2,← Rat.intCast_mul,Rat.intCast_lt_intCast]
end Go.Proofs.YtkohkoiegmcghaaDoor
namespace Go.Proofs.YtkohkoiegmcghaaDoor
set_option linter.unusedSimpArgs false
set_option linter.unusedVariables false
open Go.RowKit
def sig (f:Nat→Rat):Nat→Rat
 | 0=>0
 | n+1=>sig f n+f n
theorem sig_congr {f g:Nat→Rat}:∀ {n:Nat},(∀ i,i<n→f i=g i)→sig f n=sig g n
 | 0,_=>rfl
 | n+1,h=>by simp only [sig];rw [sig_congr fun i hi=>h i (by omega),h n (by omega)]
theorem sig_le {f g:Nat→Rat}:∀ {n:Nat},(∀ i,i<n→f i≤g i)→sig f n≤sig g n
 | 0,_=>by simp only [sig];exact Rat.le_refl
 | n+1,h=>by
  have h1:=sig_le (n:=n) fun i hi=>h i (by omega)
  have h2:=h n (by omega)
  simp only [sig];grind
theorem sig_zero:∀ n:Nat,sig (fun _=>0) n=0
 | 0=>rfl
 | n+1=>by simp only [sig];rw [sig_zero n];grind
theorem sig_add (f g:Nat→Rat):∀ n:Nat,sig (fun i=>f i+g i) n=sig f n+sig g n
 | 0=>by simp only [sig];grind
 | n+1=>by simp only [sig];rw [sig_add f g n];grind
theorem sig_mul (c:Rat) (f:Nat→Rat):∀ n:Nat,sig (fun i=>c*f i) n=c*sig f n
 | 0=>by simp only [sig];grind
 | n+1=>by simp only [sig];rw [sig_mul c f n];grind
theorem sig_comm (f:Nat→Nat→Rat) (n:Nat):∀ m:Nat,sig (fun i=>sig (fun j=>f i j) n) m=sig (fun j=>sig (fun i=>f i j) m) n
 | 0=>by simp only [sig];rw [sig_zero]
 | m+1=>by simp only [sig];rw [sig_comm f n m,← sig_add]
theorem weak_dual {m n:Nat} {A:Nat→Nat→Rat} {b c x y:Nat→Rat} (h1:∀ i,i<m→b i≤sig (fun j=>A i j*x j) n) (h2:∀ j,j<n→sig (fun i=>A i j*y i) m≤c j) (hx:∀ j,j<n→0≤x j) (hy:∀ i,i<m→0≤y i):sig (fun i=>b i*y i) m≤sig (fun j=>c j*x j) n:=by
 have e1:sig (fun i=>b i*y i) m≤sig (fun i=>sig (fun j=>y i*(A i j*x j)) n) m:=sig_le fun i hi=>by
  rw [sig_mul,Rat.mul_comm (y i)]
  exact Rat.mul_le_mul_of_nonneg_right (h1 i hi) (hy i hi)
 have e2:sig (fun j=>sig (fun i=>x j*(A i j*y i)) m) n≤sig (fun j=>c j*x j) n:=sig_le fun j hj=>by
  rw [sig_mul,Rat.mul_comm (x j)]
  exact Rat.mul_le_mul_of_nonneg_right (h2 j hj) (hx j hj)
 have e3:sig (fun i=>sig (fun j=>y i*(A i j*x j)) n) m=sig (fun j=>sig (fun i=>x j*(A i j*y i)) m) n:=by
  rw [sig_comm]
  exact sig_congr fun j _=>sig_congr fun i _=>by grind
 grind
theorem dotTo_sig {a b:List RatD}:∀ {k:Nat} {s:RatD},dotTo a b k=some s→vR s=true∧qv s=sig (fun i=>qv (qx a i)*qv (qx b i)) k
 | 0,s,h=>by
  simp only [dotTo,Option.some.injEq] at h
  subst h
  exact ⟨by decide +kernel,by simp [qv,sig];grind⟩
 | k+1,s,h=>by
  simp only [dotTo] at h
  split at h
  ·cases h
  ·rename_i s0 hs
   split at h
   ·rename_i hc
    simp only [Option.some.injEq] at h
    subst h
    obtain ⟨_,h1⟩:=dotTo_sig hs
    obtain ⟨_,_,h2⟩:=mulQ_ok hc.1
    obtain ⟨_,_,h3⟩:=addQ_ok hc.2
    refine ⟨?_,?_⟩
    ·exact (fitAdd _ _).1 hc.2
    ·simp only [sig]
     rw [h3,h2,h1]
   ·cases h
theorem dotF_sig {a b:List RatD} {s:RatD} (h:dotF a b=some s):a.length=b.length∧vR s=true∧qv s=sig (fun i=>qv (qx a i)*qv (qx b i)) a.length:=by
 unfold dotF at h
 split at h
 ·rename_i hl;exact ⟨hl,dotTo_sig h⟩
 ·cases h
end Go.Proofs.YtkohkoiegmcghaaDoor
namespace Go.Proofs.YtkohkoiegmcghaaDoor
set_option linter.unusedSimpArgs false
set_option linter.unusedVariables false
open Go.RowKit
theorem null_vec:∀ (n m:Nat) (A:Nat→Nat→Rat),m<n→∃ d:Nat→Rat,(∃ j,j<n∧d j ≠ 0)∧∀ i,i<m→sig (fun j=>A i j*d j) n=0
 | 0,m,_,h=>absurd h (Nat.not_lt_zero _)
 | n+1,m,A,h=>by
  by_cases hz:∀ i,i<m→A i n=0
  ·
   refine ⟨fun j=>if j=n then 1 else 0,⟨n,by omega,by simp⟩,fun i hi=>?_⟩
   have e:sig (fun j=>A i j*(if j=n then (1:Rat) else 0)) n=sig (fun _=>0) n:=sig_congr fun j hj=>by
    simp only [show ¬ j=n by omega,if_false];grind
   simp only [sig,e,sig_zero,hz i hi,if_true]
   grind
  ·
   obtain ⟨p,hp⟩:=Classical.not_forall.1 hz
   obtain ⟨hpm,hp0⟩:p<m∧A p n ≠ 0:=⟨Classical.byContradiction fun h=>hp fun h2=>absurd h2 h,fun h=>hp fun _=>h⟩
   let B:Nat→Nat→Rat:=fun i j=>A (if i<p then i else i+1) j - A (if i<p then i else i+1) n / A p n*A p j
   obtain ⟨d,⟨j0,hj0,hd0⟩,hd⟩:=null_vec n (m - 1) B (by omega)
   refine ⟨fun j=>if j=n then - sig (fun j=>A p j*d j) n / A p n else d j,⟨j0,by omega,by simp [show ¬ j0=n by omega,hd0]⟩,fun i hi=>?_⟩
   have e:∀ i,sig (fun j=>A i j*(if j=n then - sig (fun j=>A p j*d j) n / A p n else d j)) n=sig (fun j=>A i j*d j) n:=fun i=>sig_congr fun j hj=>by simp only [show ¬ j=n by omega,if_false]
   simp only [sig,e,if_true]
   by_cases hip:i=p
   ·subst hip;grind
   ·obtain ⟨k,hk,hki⟩:∃ k,k<m - 1∧(if k<p then k else k+1)=i:=by
     by_cases h1:i<p
     ·exact ⟨i,by omega,by simp [h1]⟩
     ·exact ⟨i - 1,by omega,by simp only [show ¬ i - 1<p by omega,if_false];omega⟩
    have h1:=hd k hk
    have e2:sig (fun j=>B k j*d j) n=sig (fun j=>A i j*d j) n+(- (A i n / A p n))*sig (fun j=>A p j*d j) n:=by
     rw [← sig_mul,← sig_add]
     exact sig_congr fun j _=>by simp only [B,hki];grind
    rw [e2] at h1
    grind
abbrev Ineq:Type:=(Nat→Rat)×Rat
def Sat (n:Nat) (L:List Ineq) (z:Nat→Rat):Prop:=∀ p∈L,sig (fun j=>p.1 j*z j) n≤p.2
inductive Der (L:List Ineq):(Nat→Rat)→Rat→Prop where
 | ax {p:Ineq} (h:p∈L):Der L p.1 p.2
 | add {a a':Nat→Rat} {b b':Rat} (h:Der L a b) (h':Der L a' b'):Der L (fun j=>a j+a' j) (b+b')
 | mul {a:Nat→Rat} {b c:Rat} (hc:0≤c) (h:Der L a b):Der L (fun j=>c*a j) (c*b)
theorem Der.sub {L L':List Ineq} (h:∀ p∈L',Der L p.1 p.2) {a:Nat→Rat} {b:Rat} (hd:Der L' a b):Der L a b:=by
 induction hd with
 | ax hp=>exact h _ hp
 | add _ _ h1 h2=>exact h1.add h2
 | mul hc _ h1=>exact h1.mul hc
theorem Der.zeroAt {L:List Ineq} {n:Nat} (h:∀ p∈L,p.1 n=0) {a:Nat→Rat} {b:Rat} (hd:Der L a b):a n=0:=by
 induction hd with
 | ax hp=>exact h _ hp
 | add _ _ h1 h2=>simp only [h1,h2];grind
 | mul hc _ h1=>simp only [h1];grind
theorem max_of:∀ (l:List Rat),l ≠ []→∃ m∈l,∀ x∈l,x≤m
 | [],h=>absurd rfl h
 | [x],_=>⟨x,by simp,fun y hy=>by simp at hy;subst hy;exact Rat.le_refl⟩
 | x :: y :: l,_=>by
  obtain ⟨m,hm,hall⟩:=max_of (y :: l) (by simp)
  rcases Rat.le_total (a:=x) (b:=m) with h | h
  ·refine ⟨m,List.mem_cons_of_mem _ hm,fun z hz=>?_⟩
   rcases List.mem_cons.1 hz with rfl | hz
   ·exact h
   ·exact hall z hz
  ·refine ⟨x,List.mem_cons_self ..,fun z hz=>?_⟩
   rcases List.mem_cons.1 hz with rfl | hz
   ·exact Rat.le_refl
   ·exact Rat.le_trans (hall z hz) h
theorem low_of:∀ (l:List Rat),∃ m,∀ x∈l,m≤x
 | []=>⟨0,fun x hx=>by cases hx⟩
 | x :: l=>by
  obtain ⟨m,hall⟩:=low_of l
  rcases Rat.le_total (a:=x) (b:=m) with h | h
  ·refine ⟨x,fun z hz=>?_⟩
   rcases List.mem_cons.1 hz with rfl | hz
   ·exact Rat.le_refl
   ·exact Rat.le_trans h (hall z hz)
  ·refine ⟨m,fun z hz=>?_⟩
   rcases List.mem_cons.1 hz with rfl | hz
   ·exact h
   ·exact hall z hz
theorem between {Ls Us:List Rat} (h:∀ l∈Ls,∀ u∈Us,l≤u):∃ t,(∀ l∈Ls,l≤t)∧∀ u∈Us,t≤u:=by
 by_cases e:Ls=[]
 ·subst e
  obtain ⟨m,hm⟩:=low_of Us
  exact ⟨m,(fun l hl=>by cases hl),hm⟩
 ·obtain ⟨m,hm,hall⟩:=max_of Ls e
  exact ⟨m,hall,fun u hu=>h m hm u hu⟩
theorem farkas:∀ (n:Nat) (L:List Ineq),(∀ z,¬ Sat n L z)→∃ a b,Der L a b∧(∀ j,j<n→a j=0)∧b<0
 | 0,L,h=>by
  have h1:=h (fun _=>0)
  obtain ⟨p,hp⟩:=Classical.not_forall.1 h1
  obtain ⟨hpL,hp2⟩:p∈L∧¬ (0:Rat)≤p.2:=⟨Classical.byContradiction fun h=>hp fun h2=>absurd h2 h,fun h=>hp fun _=>h⟩
  exact ⟨p.1,p.2,.ax hpL,fun j hj=>absurd hj (Nat.not_lt_zero _),Rat.not_le.1 hp2⟩
 | n+1,L,h=>by
  let Z:=L.filter fun p=>decide (p.1 n=0)
  let P:=L.filter fun p=>decide (0<p.1 n)
  let M:=L.filter fun p=>decide (p.1 n<0)
  let comb:Ineq→Ineq→Ineq:=fun p q=>(fun j=>(1 / p.1 n)*p.1 j+(1 / (- q.1 n))*q.1 j,(1 / p.1 n)*p.2+(1 / (- q.1 n))*q.2)
  let L':=Z ++ P.flatMap fun p=>M.map fun q=>comb p q
  have hmem:∀ r∈L',Der L r.1 r.2∧r.1 n=0:=fun r hr=>by
   rcases List.mem_append.1 hr with hr | hr
   ·obtain ⟨h1,h2⟩:=List.mem_filter.1 hr
    exact ⟨.ax h1,by simpa using h2⟩
   ·obtain ⟨p,hp,hr⟩:=List.mem_flatMap.1 hr
    obtain ⟨q,hq,rfl⟩:=List.mem_map.1 hr
    obtain ⟨p1,p2⟩:=List.mem_filter.1 hp
    obtain ⟨q1,q2⟩:=List.mem_filter.1 hq
    have p2:0<p.1 n:=by simpa using p2
    have q2:q.1 n<0:=by simpa using q2
    have c1:(0:Rat)≤1 / p.1 n:=Rat.le_of_lt (by rw [Rat.lt_div_iff p2];grind)
    have c2:(0:Rat)≤1 / (- q.1 n):=Rat.le_of_lt (by rw [Rat.lt_div_iff (by grind)];grind)
    exact ⟨.add (.mul c1 (.ax p1)) (.mul c2 (.ax q1)),by simp only [comb];grind⟩
  by_cases hs:∃ z,Sat n L' z
  ·exfalso
   obtain ⟨z,hz⟩:=hs
   obtain ⟨t,ht1,ht2⟩:=between (Ls:=M.map fun q=>(q.2 - sig (fun j=>q.1 j*z j) n) / q.1 n) (Us:=P.map fun p=>(p.2 - sig (fun j=>p.1 j*z j) n) / p.1 n) (fun l hl u hu=>by
    obtain ⟨q,hq,rfl⟩:=List.mem_map.1 hl
    obtain ⟨p,hp,rfl⟩:=List.mem_map.1 hu
    have p2:0<p.1 n:=by simpa using (List.mem_filter.1 hp).2
    have q2:q.1 n<0:=by simpa using (List.mem_filter.1 hq).2
    have:=hz (comb p q) (List.mem_append_right _ (List.mem_flatMap.2 ⟨p,hp,List.mem_map.2 ⟨q,hq,rfl⟩⟩))
    have e:sig (fun j=>(comb p q).1 j*z j) n=(1 / p.1 n)*sig (fun j=>p.1 j*z j) n+(1 / (- q.1 n))*sig (fun j=>q.1 j*z j) n:=by
     rw [← sig_mul,← sig_mul,← sig_add]
     exact sig_congr fun j _=>by simp only [comb];grind
    rw [e] at this
    simp only [comb] at this
    generalize sig (fun j=>p.1 j*z j) n=sp at *
    generalize sig (fun j=>q.1 j*z j) n=sq' at *
    generalize p.1 n=pn at *
    generalize q.1 n=qn at *
    have e1:(q.2 - sq') / qn = - ((1 / -qn)*q.2 - (1 / -qn)*sq'):=by grind
    have e2:(p.2 - sp) / pn=(1 / pn)*p.2 - (1 / pn)*sp:=by grind
    rw [e1,e2]
    grind)
   refine h (fun j=>if j=n then t else z j) fun p hp=>?_
   have e:sig (fun j=>p.1 j*(if j=n then t else z j)) n=sig (fun j=>p.1 j*z j) n:=sig_congr fun j hj=>by simp only [show ¬ j=n by omega,if_false]
   simp only [sig,e,if_true]
   rcases (show p.1 n<0∨p.1 n=0∨0<p.1 n by grind) with h1 | h1 | h1
   ·have h2:=ht1 _ (List.mem_map.2 ⟨p,List.mem_filter.2 ⟨hp,by simpa using h1⟩,rfl⟩)
    generalize sig (fun j=>p.1 j*z j) n=sp at *
    have h3:(p.2 - sp) / p.1 n*(- p.1 n)≤t*(- p.1 n):=Rat.mul_le_mul_of_nonneg_right h2 (by grind)
    have e3:(p.2 - sp) / p.1 n*(- p.1 n)=sp - p.2:=by grind
    rw [e3] at h3
    grind
   ·have h2:=hz p (List.mem_append_left _ (List.mem_filter.2 ⟨hp,by simpa using h1⟩))
    rw [h1];grind
   ·have h2:=ht2 _ (List.mem_map.2 ⟨p,List.mem_filter.2 ⟨hp,by simpa using h1⟩,rfl⟩)
    generalize sig (fun j=>p.1 j*z j) n=sp at *
    have h3:t*p.1 n≤(p.2 - sp) / p.1 n*p.1 n:=Rat.mul_le_mul_of_nonneg_right h2 (by grind)
    have e3:(p.2 - sp) / p.1 n*p.1 n=p.2 - sp:=by grind
    rw [e3] at h3
    grind
  ·obtain ⟨a,b,hd,ha,hb⟩:=farkas n L' fun z hz=>hs ⟨z,hz⟩
   refine ⟨a,b,Der.sub (fun r hr=>(hmem r hr).1) hd,fun j hj=>?_,hb⟩
   by_cases e:j=n
   ·subst e;exact Der.zeroAt (fun r hr=>(hmem r hr).2) hd
   ·exact ha j (by omega)
theorem sig_split (f:Nat→Rat) (n:Nat):∀ m:Nat,sig f (n+m)=sig f n+sig (fun i=>f (n+i)) m
 | 0=>by simp only [sig,Nat.add_zero];grind
 | m+1=>by rw [← Nat.add_assoc];simp only [sig];rw [sig_split f n m];grind
theorem sig_one (f:Nat→Rat) (p:Nat) (c:Rat):∀ n:Nat,p<n→sig (fun i=>(if i=p then c else 0)*f i) n=c*f p
 | 0,h=>absurd h (Nat.not_lt_zero _)
 | n+1,h=>by
  simp only [sig]
  by_cases e:n=p
  ·subst e
   have:sig (fun i=>(if i=n then c else 0)*f i) n=sig (fun _=>0) n:=sig_congr fun j hj=>by simp only [show ¬ j=n by omega,if_false];grind
   rw [this,sig_zero];simp only [if_true];grind
  ·rw [sig_one f p c n (by omega)];simp only [if_neg e];grind
theorem sig_const0 {f:Nat→Rat} {n:Nat} (h:∀ i,i<n→f i=0):sig f n=0:=by rw [sig_congr h,sig_zero]
def FeasP (m n:Nat) (A:Nat→Nat→Rat) (b x:Nat→Rat):Prop:=(∀ j,j<n→0≤x j)∧∀ i,i<m→b i≤sig (fun j=>A i j*x j) n
def FeasD (m n:Nat) (A:Nat→Nat→Rat) (c y:Nat→Rat):Prop:=(∀ i,i<m→0≤y i)∧∀ j,j<n→sig (fun i=>A i j*y i) m≤c j
section
variable (m n:Nat) (A:Nat→Nat→Rat) (b c:Nat→Rat)
def sysL:List Ineq :=
 ((List.range m).map fun i=>((fun k=>if k<n then - A i k else 0),- b i)) ++ ((List.range n).map fun j=>((fun k=>if k=j then -1 else 0),0)) ++ ((List.range n).map fun j=>((fun k=>if k<n then 0 else A (k - n) j),c j)) ++ ((List.range m).map fun i=>((fun k=>if k=n+i then -1 else 0),0)) ++ [((fun k=>if k<n then c k else - b (k - n)),0)]
theorem sys_sat {z:Nat→Rat} (h:Sat (n+m) (sysL m n A b c) z):FeasP m n A b z∧FeasD m n A c (fun i=>z (n+i))∧sig (fun j=>c j*z j) n≤sig (fun i=>b i*z (n+i)) m:=by
 refine ⟨⟨fun j hj=>?_,fun i hi=>?_⟩,⟨fun i hi=>?_,fun j hj=>?_⟩,?_⟩
 ·have:=h ((fun k=>if k=j then -1 else 0),0) (by simp only [sysL,List.mem_append,List.mem_map,List.mem_range];exact .inl (.inl (.inl (.inr ⟨j,hj,rfl⟩))))
  simp only at this
  rw [sig_one z j (-1) (n+m) (by omega)] at this
  grind
 ·have:=h ((fun k=>if k<n then - A i k else 0),- b i) (by simp only [sysL,List.mem_append,List.mem_map,List.mem_range];exact .inl (.inl (.inl (.inl ⟨i,hi,rfl⟩))))
  simp only at this
  rw [sig_split,sig_const0 (n:=m) (fun k hk=>by simp only [show ¬ n+k<n by omega,if_false];grind)] at this
  have e:sig (fun j=>(if j<n then - A i j else 0)*z j) n=(-1)*sig (fun j=>A i j*z j) n:=by
   rw [← sig_mul];exact sig_congr fun k hk=>by simp only [hk,if_true];grind
  rw [e] at this
  grind
 ·have:=h ((fun k=>if k=n+i then -1 else 0),0) (by simp only [sysL,List.mem_append,List.mem_map,List.mem_range];exact .inl (.inr ⟨i,hi,rfl⟩))
  simp only at this
  rw [sig_one z (n+i) (-1) (n+m) (by omega)] at this
  grind
 ·have:=h ((fun k=>if k<n then 0 else A (k - n) j),c j) (by simp only [sysL,List.mem_append,List.mem_map,List.mem_range];exact .inl (.inl (.inr ⟨j,hj,rfl⟩)))
  simp only at this
  rw [sig_split,sig_const0 (n:=n) (fun k hk=>by simp only [hk,if_true];grind)] at this
  have e:sig (fun i=>(if n+i<n then 0 else A (n+i - n) j)*z (n+i)) m=sig (fun i=>A i j*z (n+i)) m:=sig_congr fun k hk=>by simp only [show ¬ n+k<n by omega,if_false,show n+k - n=k by omega]
  rw [e] at this
  grind
 ·have:=h ((fun k=>if k<n then c k else - b (k - n)),0) (by simp [sysL])
  simp only at this
  rw [sig_split] at this
  have e1:sig (fun j=>(if j<n then c j else - b (j - n))*z j) n=sig (fun j=>c j*z j) n:=sig_congr fun k hk=>by simp only [hk,if_true]
  have e2:sig (fun i=>(if n+i<n then c (n+i) else - b (n+i - n))*z (n+i)) m=(-1)*sig (fun i=>b i*z (n+i)) m:=by
   rw [← sig_mul];exact sig_congr fun k hk=>by simp only [show ¬ n+k<n by omega,if_false,show n+k - n=k by omega];grind
  rw [e1,e2] at this
  grind
def Mult (a:Nat→Rat) (β:Rat):Prop:=∃ (u r v s:Nat→Rat) (t:Rat),(∀ i,0≤u i)∧(∀ i,0≤r i)∧(∀ i,0≤v i)∧(∀ i,0≤s i)∧0≤t ∧
 (∀ k,k<n→a k = - sig (fun i=>A i k*u i) m - r k+t*c k)∧(∀ i,i<m→a (n+i)=sig (fun j=>A i j*v j) n - s i - t*b i)∧β = - sig (fun i=>b i*u i) m+sig (fun j=>c j*v j) n
theorem sig_one' (f:Nat→Rat) (p n:Nat) (h:p<n):sig (fun i=>f i*(if i=p then (1:Rat) else 0)) n=f p:=by
 rw [sig_congr (g:=fun i=>(if i=p then (1:Rat) else 0)*f i) (fun i _=>Rat.mul_comm ..),sig_one f p 1 n h];grind
theorem sig_none (f:Nat→Rat) (n:Nat):sig (fun i=>f i*(0:Rat)) n=0:=sig_const0 fun i _=>by grind
theorem ind_nonneg (p:Nat):∀ i:Nat,(0:Rat)≤if i=p then 1 else 0:=fun i=>by split <;> grind
theorem sys_mult {a:Nat→Rat} {β:Rat} (h:Der (sysL m n A b c) a β):Mult m n A b c a β:=by
 induction h with
 | ax hp =>
  simp only [sysL,List.mem_append,List.mem_map,List.mem_range,List.mem_singleton] at hp
  rcases hp with (((⟨i,hi,rfl⟩ | ⟨j,hj,rfl⟩) | ⟨j,hj,rfl⟩) | ⟨i,hi,rfl⟩) | rfl
  ·refine ⟨fun k=>if k=i then 1 else 0,fun _=>0,fun _=>0,fun _=>0,0,ind_nonneg i,fun _=>Rat.le_refl,fun _=>Rat.le_refl,fun _=>Rat.le_refl,Rat.le_refl,fun k hk=>?_,fun k hk=>?_,?_⟩
   ·rw [sig_one' (fun i=>A i k) i m hi];simp only [hk,if_true];grind
   ·rw [sig_none];simp only [show ¬ n+k<n by omega,if_false];grind
   ·rw [sig_one' b i m hi,sig_none];grind
  ·refine ⟨fun _=>0,fun k=>if k=j then 1 else 0,fun _=>0,fun _=>0,0,fun _=>Rat.le_refl,ind_nonneg j,fun _=>Rat.le_refl,fun _=>Rat.le_refl,Rat.le_refl,fun k hk=>?_,fun k hk=>?_,?_⟩
   ·rw [sig_none];simp only;split <;> grind
   ·rw [sig_none];simp only [show ¬ n+k=j by omega,if_false];grind
   ·rw [sig_none,sig_none];grind
  ·refine ⟨fun _=>0,fun _=>0,fun k=>if k=j then 1 else 0,fun _=>0,0,fun _=>Rat.le_refl,fun _=>Rat.le_refl,ind_nonneg j,fun _=>Rat.le_refl,Rat.le_refl,fun k hk=>?_,fun k hk=>?_,?_⟩
   ·rw [sig_none];simp only [hk,if_true];grind
   ·rw [sig_one' (fun j=>A k j) j n hj];simp only [show ¬ n+k<n by omega,if_false,show n+k - n=k by omega];grind
   ·rw [sig_none,sig_one' c j n hj];grind
  ·refine ⟨fun _=>0,fun _=>0,fun _=>0,fun k=>if k=i then 1 else 0,0,fun _=>Rat.le_refl,fun _=>Rat.le_refl,fun _=>Rat.le_refl,ind_nonneg i,Rat.le_refl,fun k hk=>?_,fun k hk=>?_,?_⟩
   ·rw [sig_none];simp only [show ¬ k=n+i by omega,if_false];grind
   ·rw [sig_none];simp only [Nat.add_left_cancel_iff];split <;> grind
   ·rw [sig_none,sig_none];grind
  ·refine ⟨fun _=>0,fun _=>0,fun _=>0,fun _=>0,1,fun _=>Rat.le_refl,fun _=>Rat.le_refl,fun _=>Rat.le_refl,fun _=>Rat.le_refl,by grind,fun k hk=>?_,fun k hk=>?_,?_⟩
   ·rw [sig_none];simp only [hk,if_true];grind
   ·rw [sig_none];simp only [show ¬ n+k<n by omega,if_false,show n+k - n=k by omega];grind
   ·rw [sig_none,sig_none];grind
 | add _ _ h1 h2 =>
  obtain ⟨u,r,v,s,t,p1,p2,p3,p4,p5,p6,p7,p8⟩:=h1
  obtain ⟨u',r',v',s',t',q1,q2,q3,q4,q5,q6,q7,q8⟩:=h2
  refine ⟨fun i=>u i+u' i,fun i=>r i+r' i,fun i=>v i+v' i,fun i=>s i+s' i,t+t',fun i=>by have:=p1 i;have:=q1 i;grind,fun i=>by have:=p2 i;have:=q2 i;grind,fun i=>by have:=p3 i;have:=q3 i;grind,fun i=>by have:=p4 i;have:=q4 i;grind,by grind,fun k hk=>?_,fun k hk=>?_,?_⟩
  ·have e:sig (fun i=>A i k*(u i+u' i)) m=sig (fun i=>A i k*u i) m+sig (fun i=>A i k*u' i) m:=by rw [← sig_add];exact sig_congr fun _ _=>by grind
   simp only [e,p6 k hk,q6 k hk];grind
  ·have e:sig (fun i=>A k i*(v i+v' i)) n=sig (fun i=>A k i*v i) n+sig (fun i=>A k i*v' i) n:=by rw [← sig_add];exact sig_congr fun _ _=>by grind
   simp only [e,p7 k hk,q7 k hk];grind
  ·have e:sig (fun i=>b i*(u i+u' i)) m=sig (fun i=>b i*u i) m+sig (fun i=>b i*u' i) m:=by rw [← sig_add];exact sig_congr fun _ _=>by grind
   have e2:sig (fun i=>c i*(v i+v' i)) n=sig (fun i=>c i*v i) n+sig (fun i=>c i*v' i) n:=by rw [← sig_add];exact sig_congr fun _ _=>by grind
   rw [e,e2,p8,q8];grind
 | mul hc _ h1 =>
  rename_i a' b' k0 _
  obtain ⟨u,r,v,s,t,p1,p2,p3,p4,p5,p6,p7,p8⟩:=h1
  refine ⟨fun i=>k0*u i,fun i=>k0*r i,fun i=>k0*v i,fun i=>k0*s i,k0*t,fun i=>Rat.mul_nonneg hc (p1 i),fun i=>Rat.mul_nonneg hc (p2 i),fun i=>Rat.mul_nonneg hc (p3 i),fun i=>Rat.mul_nonneg hc (p4 i),Rat.mul_nonneg hc p5,fun k hk=>?_,fun k hk=>?_,?_⟩
  ·have e:sig (fun i=>A i k*(k0*u i)) m=k0*sig (fun i=>A i k*u i) m:=by rw [← sig_mul];exact sig_congr fun _ _=>by grind
   simp only [e,p6 k hk];grind
  ·have e:sig (fun i=>A k i*(k0*v i)) n=k0*sig (fun i=>A k i*v i) n:=by rw [← sig_mul];exact sig_congr fun _ _=>by grind
   simp only [e,p7 k hk];grind
  ·have e:sig (fun i=>b i*(k0*u i)) m=k0*sig (fun i=>b i*u i) m:=by rw [← sig_mul];exact sig_congr fun _ _=>by grind
   have e2:sig (fun i=>c i*(k0*v i)) n=k0*sig (fun i=>c i*v i) n:=by rw [← sig_mul];exact sig_congr fun _ _=>by grind
   rw [e,e2,p8];grind
theorem opt_pair {x0 y0:Nat→Rat} (hx:FeasP m n A b x0) (hy:FeasD m n A c y0):∃ x y,FeasP m n A b x∧FeasD m n A c y∧sig (fun j=>c j*x j) n=sig (fun i=>b i*y i) m:=by
 by_cases h:∃ z,Sat (n+m) (sysL m n A b c) z
 ·obtain ⟨z,hz⟩:=h
  obtain ⟨h1,h2,h3⟩:=sys_sat m n A b c hz
  have h4:=weak_dual (b:=b) (c:=c) h1.2 h2.2 h1.1 h2.1
  exact ⟨z,_,h1,h2,by grind⟩
 ·exfalso
  obtain ⟨a,β,hd,ha,hβ⟩:=farkas (n+m) _ fun z hz=>h ⟨z,hz⟩
  obtain ⟨u,r,v,s,t,p1,p2,p3,p4,p5,p6,p7,p8⟩:=sys_mult m n A b c hd
  have k6:∀ k,k<n→sig (fun i=>A i k*u i) m≤t*c k:=fun k hk=>by
   have h1:=p6 k hk;have h2:=ha k (by omega);have h3:=p2 k;grind
  have k7:∀ i,i<m→t*b i≤sig (fun j=>A i j*v j) n:=fun i hi=>by
   have h1:=p7 i hi;have h2:=ha (n+i) (by omega);have h3:=p4 i;grind
  by_cases ht:t=0
  ·subst ht
   have w1:=weak_dual (m:=m) (n:=n) (A:=A) (b:=b) (c:=fun _=>0) (x:=x0) (y:=u) hx.2 (fun j hj=>by have:=k6 j hj;grind) hx.1 (fun i _=>p1 i)
   have w2:=weak_dual (m:=m) (n:=n) (A:=A) (b:=fun _=>0) (c:=c) (x:=v) (y:=y0) (fun i hi=>by have:=k7 i hi;grind) hy.2 (fun j _=>p3 j) hy.1
   rw [sig_const0 (n:=n) (fun i _=>by grind)] at w1
   rw [sig_const0 (n:=m) (fun i _=>by grind)] at w2
   grind
  ·have ht0:0<t:=by grind
   have w:=weak_dual (m:=m) (n:=n) (A:=A) (b:=fun i=>t*b i) (c:=fun j=>t*c j) (x:=v) (y:=u) k7 k6 (fun j _=>p3 j) (fun i _=>p1 i)
   have e1:sig (fun i=>t*b i*u i) m=t*sig (fun i=>b i*u i) m:=by rw [← sig_mul];exact sig_congr fun _ _=>by grind
   have e2:sig (fun i=>t*c i*v i) n=t*sig (fun i=>c i*v i) n:=by rw [← sig_mul];exact sig_congr fun _ _=>by grind
   rw [e1,e2] at w
   have h5:sig (fun j=>c j*v j) n<sig (fun i=>b i*u i) m:=by grind
   have h6:t*sig (fun j=>c j*v j) n<t*sig (fun i=>b i*u i) m:=Rat.mul_lt_mul_of_pos_left h5 ht0
   grind
end
theorem least (f:Nat→Rat) (P:Nat→Prop):∀ M:Nat,(∃ i,i<M∧P i)→∃ i,i<M∧P i∧∀ k,k<M→P k→f i≤f k
 | 0,h=>by obtain ⟨i,hi,_⟩:=h;omega
 | M+1,h=>by
  by_cases h0:∃ i,i<M∧P i
  ·obtain ⟨i,hi,hp,hm⟩:=least f P M h0
   by_cases hM:P M∧f M<f i
   ·exact ⟨M,by omega,hM.1,fun k hk hp=>by
    by_cases e:k=M
    ·subst e;exact Rat.le_refl
    ·have:=hm k (by omega) hp;have:=hM.2;grind⟩
   ·exact ⟨i,by omega,hp,fun k hk hpk=>by
    by_cases e:k=M
    ·subst e
     by_cases h2:f k<f i
     ·exact absurd ⟨hpk,h2⟩ hM
     ·grind
    ·exact hm k (by omega) hpk⟩
  ·obtain ⟨i,hi,hp⟩:=h
   have e:i=M:=Classical.byContradiction fun e=>h0 ⟨i,by omega,hp⟩
   subst e
   exact ⟨i,by omega,hp,fun k hk hpk=>by
    by_cases e:k=i
    ·subst e;exact Rat.le_refl
    ·exact absurd ⟨k,by omega,hpk⟩ h0⟩
theorem sig_line (g x d:Nat→Rat) (t:Rat) (n:Nat):sig (fun j=>g j*(x j+t*d j)) n=sig (fun j=>g j*x j) n+t*sig (fun j=>g j*d j) n:=by
 rw [← sig_mul,← sig_add];exact sig_congr fun j _=>by grind
theorem filter_lt {α:Type} (p q:α→Bool):∀ (l:List α),(∀ a∈l,q a=true→p a=true)→(∃ a∈l,p a=true∧q a=false)→(l.filter q).length<(l.filter p).length
 | [],_,h=>by obtain ⟨a,h,_⟩:=h;cases h
 | a :: l,h1,h2=>by
  have hle:(l.filter q).length≤(l.filter p).length:=by
   rw [← List.countP_eq_length_filter,← List.countP_eq_length_filter]
   exact List.countP_mono_left fun b hb=>h1 b (List.mem_cons_of_mem _ hb)
  obtain ⟨b,hb,hp,hq⟩:=h2
  rcases List.mem_cons.1 hb with rfl | hb
  ·simp only [List.filter_cons,hp,hq,if_true];simp;omega
  ·have ih:=filter_lt p q l (fun c hc=>h1 c (List.mem_cons_of_mem _ hc)) ⟨b,hb,hp,hq⟩
   simp only [List.filter_cons]
   have h3:=h1 a (List.mem_cons_self ..)
   cases hqa:q a
   ·cases hpa:p a <;> simp <;> omega
   ·rw [h3 hqa];simp;omega
theorem purify (n M:Nat) (G:Nat→Nat→Rat) (h:Nat→Rat) (hG:∀ d:Nat→Rat,(∃ j,j<n∧d j ≠ 0)→∃ i,i<M∧sig (fun j=>G i j*d j) n ≠ 0):∀ (N:Nat) (x:Nat→Rat),((List.range M).filter fun i=>!decide (sig (fun j=>G i j*x j) n=h i)).length≤N→(∀ i,i<M→h i≤sig (fun j=>G i j*x j) n) →
 ∃ x':Nat→Rat,(∀ i,i<M→h i≤sig (fun j=>G i j*x' j) n)∧(∀ i,i<M→sig (fun j=>G i j*x j) n=h i→sig (fun j=>G i j*x' j) n=h i) ∧
  ∀ d:Nat→Rat,(∀ i,i<M→sig (fun j=>G i j*x' j) n=h i→sig (fun j=>G i j*d j) n=0)→∀ j,j<n→d j=0:=by
 intro N
 induction N with
 | zero =>
  intro x hN hx
  refine ⟨x,hx,fun _ _ e=>e,fun d hd j hj=>Classical.byContradiction fun hne=>?_⟩
  obtain ⟨i,hi,h0⟩:=hG d ⟨j,hj,hne⟩
  refine h0 (hd i hi (Classical.byContradiction fun hn=>?_))
  have:i∈(List.range M).filter fun i=>!decide (sig (fun j=>G i j*x j) n=h i):=by simp [List.mem_filter,hi,hn]
  rw [List.length_eq_zero_iff.1 (Nat.le_zero.1 hN)] at this
  cases this
 | succ N ih =>
  intro x hN hx
  by_cases hc:∀ d:Nat→Rat,(∀ i,i<M→sig (fun j=>G i j*x j) n=h i→sig (fun j=>G i j*d j) n=0)→∀ j,j<n→d j=0
  ·exact ⟨x,hx,fun _ _ e=>e,hc⟩
  ·obtain ⟨d,hd0,i0,hi0,hneg⟩:∃ d:Nat→Rat,(∀ i,i<M→sig (fun j=>G i j*x j) n=h i→sig (fun j=>G i j*d j) n=0)∧∃ i,i<M∧sig (fun j=>G i j*d j) n<0:=by
    obtain ⟨d,hd⟩:=Classical.not_forall.1 hc
    obtain ⟨h1,h2⟩:=Classical.not_imp.1 hd
    obtain ⟨j,hj⟩:=Classical.not_forall.1 h2
    obtain ⟨hj1,hj2⟩:=Classical.not_imp.1 hj
    obtain ⟨i,hi,hne⟩:=hG d ⟨j,hj1,hj2⟩
    by_cases hs:sig (fun j=>G i j*d j) n<0
    ·exact ⟨d,h1,i,hi,hs⟩
    ·have e:∀ i,sig (fun j=>G i j*((-1)*d j)) n=(-1)*sig (fun j=>G i j*d j) n:=fun i=>by rw [← sig_mul];exact sig_congr fun j _=>by grind
     refine ⟨fun j=>(-1)*d j,fun i hi ht=>by rw [e,h1 i hi ht];grind,i,hi,by rw [e];grind⟩
   obtain ⟨p,hp,hpn,hmin⟩:=least (fun i=>(sig (fun j=>G i j*x j) n - h i) / (- sig (fun j=>G i j*d j) n)) (fun i=>sig (fun j=>G i j*d j) n<0) M ⟨i0,hi0,hneg⟩
   let t:Rat:=(sig (fun j=>G p j*x j) n - h p) / (- sig (fun j=>G p j*d j) n)
   have ht:t*(- sig (fun j=>G p j*d j) n)=sig (fun j=>G p j*x j) n - h p:=Rat.div_mul_cancel (by grind)
   have ht0:0≤t:=by
    have h1:=hx p hp
    have h2:(0:Rat)≤(- sig (fun j=>G p j*d j) n)⁻¹:=Rat.le_of_lt (Rat.inv_pos.2 (by grind))
    show 0≤(sig (fun j=>G p j*x j) n - h p) / (- sig (fun j=>G p j*d j) n)
    rw [Rat.div_def]
    exact Rat.mul_nonneg (by grind) h2
   have hx':∀ i,i<M→h i≤sig (fun j=>G i j*(x j+t*d j)) n:=fun i hi=>by
    rw [sig_line]
    by_cases hs:sig (fun j=>G i j*d j) n<0
    ·have h1:t≤(sig (fun j=>G i j*x j) n - h i) / (- sig (fun j=>G i j*d j) n):=hmin i hi hs
     have h2:=Rat.mul_le_mul_of_nonneg_right h1 (show (0:Rat)≤- sig (fun j=>G i j*d j) n by grind)
     rw [Rat.div_mul_cancel (show - sig (fun j=>G i j*d j) n ≠ 0 by grind)] at h2
     grind
    ·have h1:=hx i hi
     have h2:=Rat.mul_nonneg ht0 (show (0:Rat)≤sig (fun j=>G i j*d j) n by grind)
     grind
   have hk:∀ i,i<M→sig (fun j=>G i j*x j) n=h i→sig (fun j=>G i j*(x j+t*d j)) n=h i:=fun i hi e=>by
    rw [sig_line,hd0 i hi e,e];grind
   have hpt:sig (fun j=>G p j*(x j+t*d j)) n=h p:=by rw [sig_line];grind
   have hpx:¬ sig (fun j=>G p j*x j) n=h p:=fun e=>by have:=hd0 p hp e;grind
   obtain ⟨x',k1,k2,k3⟩:=ih (fun j=>x j+t*d j) (by
    have:=filter_lt (fun i=>!decide (sig (fun j=>G i j*x j) n=h i)) (fun i=>!decide (sig (fun j=>G i j*(x j+t*d j)) n=h i)) (List.range M)
     (fun i hi hq=>by
      simp only [Bool.not_eq_true',decide_eq_false_iff_not] at hq ⊢
      exact fun e=>hq (hk i (List.mem_range.1 hi) e))
     ⟨p,List.mem_range.2 hp,by simp [hpx],by simp [hpt]⟩
    omega) hx'
   exact ⟨x',k1,fun i hi e=>k2 i hi (hk i hi e),k3⟩
theorem drop_row (n:Nat) (G:Nat→Nat→Rat) (L:List Nat) (hL:n<L.length) (h0:∀ d:Nat→Rat,(∀ i∈L,sig (fun j=>G i j*d j) n=0)→∀ j,j<n→d j=0) :
 ∃ p,p<L.length∧∀ d:Nat→Rat,(∀ i∈L.eraseIdx p,sig (fun j=>G i j*d j) n=0)→∀ j,j<n→d j=0:=by
 obtain ⟨u,⟨p,hp,hup⟩,hu⟩:=null_vec L.length n (fun j k=>G (L.getD k 0) j) hL
 refine ⟨p,hp,fun d hd=>h0 d fun i hi=>?_⟩
 have hall:∀ k,k<L.length→k ≠ p→sig (fun j=>G (L.getD k 0) j*d j) n=0:=fun k hk hkp=>hd _ (by
  rw [List.mem_eraseIdx_iff_getElem?]
  exact ⟨k,hkp,by simp [List.getD,hk]⟩)
 have e1:sig (fun k=>u k*sig (fun j=>G (L.getD k 0) j*d j) n) L.length=0:=by
  have:sig (fun k=>u k*sig (fun j=>G (L.getD k 0) j*d j) n) L.length=sig (fun j=>d j*sig (fun k=>G (L.getD k 0) j*u k) L.length) n:=by
   rw [sig_congr (fun k _=>(sig_mul (u k) _ n).symm),sig_comm,sig_congr (fun j _=>(sig_mul (d j) _ L.length).symm)]
   exact sig_congr fun j _=>sig_congr fun k _=>by grind
  rw [this]
  exact sig_const0 fun j hj=>by rw [hu j hj];grind
 have e2:sig (fun k=>u k*sig (fun j=>G (L.getD k 0) j*d j) n) L.length=u p*sig (fun j=>G (L.getD p 0) j*d j) n:=by
  rw [← sig_one (fun k=>sig (fun j=>G (L.getD k 0) j*d j) n) p (u p) L.length hp]
  refine sig_congr fun k hk=>?_
  by_cases e:k=p
  ·subst e;simp
  ·rw [hall k hk e];simp only [if_neg e];grind
 have ep:sig (fun j=>G (L.getD p 0) j*d j) n=0:=by
  rw [e2] at e1
  rcases Rat.mul_eq_zero.1 e1 with h | h
  ·exact absurd h hup
  ·exact h
 obtain ⟨k,hk,hki⟩:=List.getElem_of_mem hi
 have hki':L.getD k 0=i:=by simp [List.getD,hk,hki]
 rw [← hki']
 by_cases e:k=p
 ·subst e;exact ep
 ·exact hall k hk e
theorem basis_sub (n:Nat) (G:Nat→Nat→Rat):∀ (N:Nat) (L:List Nat),L.length≤N→(∀ d:Nat→Rat,(∀ i∈L,sig (fun j=>G i j*d j) n=0)→∀ j,j<n→d j=0) →
 ∃ L':List Nat,L'.Sublist L∧L'.length=n∧∀ d:Nat→Rat,(∀ i∈L',sig (fun j=>G i j*d j) n=0)→∀ j,j<n→d j=0:=by
 intro N
 induction N with
 | zero =>
  intro L hN h0
  refine ⟨L,List.Sublist.refl _,?_,h0⟩
  rw [Nat.le_zero.1 hN]
  refine Nat.le_antisymm (Nat.zero_le _) (Nat.le_of_not_lt fun hlt=>?_)
  have hl:L=[]:=List.length_eq_zero_iff.1 (Nat.le_zero.1 hN)
  have:=h0 (fun _=>1) (fun i hi=>by rw [hl] at hi;cases hi) 0 hlt
  exact absurd this (by decide)
 | succ N ih =>
  intro L hN h0
  by_cases hlt:n<L.length
  ·obtain ⟨p,hp,h1⟩:=drop_row n G L hlt h0
   obtain ⟨L',k1,k2,k3⟩:=ih (L.eraseIdx p) (by rw [List.length_eraseIdx];split <;> omega) h1
   exact ⟨L',k1.trans (List.eraseIdx_sublist ..),k2,k3⟩
  ·refine ⟨L,List.Sublist.refl _,Nat.le_antisymm (Nat.le_of_not_lt hlt) (Nat.le_of_not_lt fun hlt2=>?_),h0⟩
   obtain ⟨d,⟨j,hj,hne⟩,hd⟩:=null_vec n L.length (fun k j=>G (L.getD k 0) j) hlt2
   refine hne (h0 d (fun i hi=>?_) j hj)
   obtain ⟨k,hk,hki⟩:=List.getElem_of_mem hi
   have hki':L.getD k 0=i:=by simp [List.getD,hk,hki]
   rw [← hki']
   exact hd k hk
section
variable (m n:Nat) (A:Nat→Nat→Rat) (b c:Nat→Rat)
def gR (i j:Nat):Rat:=if i<m then A i j else if j=i - m then 1 else 0
def hR (i:Nat):Rat:=if i<m then b i else 0
theorem gR_lo {i:Nat} (h:i<m) (x:Nat→Rat):sig (fun j=>gR m A i j*x j) n=sig (fun j=>A i j*x j) n:=sig_congr fun j _=>by simp only [gR,h,if_true]
theorem gR_hi {j:Nat} (h:j<n) (x:Nat→Rat):sig (fun k=>gR m A (m+j) k*x k) n=x j:=by
 have:sig (fun k=>gR m A (m+j) k*x k) n=sig (fun k=>(if k=j then 1 else 0)*x k) n:=sig_congr fun k _=>by simp only [gR,show ¬ m+j<m by omega,if_false,show m+j - m=j by omega]
 rw [this,sig_one x j 1 n h];grind
theorem feasP_g {x:Nat→Rat}:FeasP m n A b x↔∀ i,i<m+n→hR m b i≤sig (fun j=>gR m A i j*x j) n:=by
 constructor
 ·intro h i hi
  by_cases e:i<m
  ·rw [gR_lo m n A e,hR,if_pos e];exact h.2 i e
  ·obtain ⟨j,rfl⟩:∃ j,i=m+j:=⟨i - m,by omega⟩
   rw [gR_hi m n A (by omega),hR,if_neg e];exact h.1 j (by omega)
 ·intro h
  refine ⟨fun j hj=>?_,fun i hi=>?_⟩
  ·have:=h (m+j) (by omega);rwa [gR_hi m n A hj,hR,if_neg (by omega)] at this
  ·have:=h i (by omega);rwa [gR_lo m n A hi,hR,if_pos hi] at this
theorem sig_zero_all {f:Nat→Rat}:∀ {n:Nat},(∀ i,i<n→0≤f i)→sig f n=0→∀ i,i<n→f i=0
 | 0,_,_,_,hi=>absurd hi (Nat.not_lt_zero _)
 | n+1,h,h0,i,hi=>by
  have h1:sig (fun _=>0) n≤sig f n:=sig_le fun i hi=>h i (by omega)
  rw [sig_zero] at h1
  have h2:=h n (by omega)
  simp only [sig] at h0
  by_cases e:i=n
  ·subst e;grind
  ·exact sig_zero_all (n:=n) (fun i hi=>h i (by omega)) (by grind) i (by omega)
theorem sig_sub (f g:Nat→Rat) (n:Nat):sig (fun i=>f i - g i) n=sig f n - sig g n:=by
 have:sig (fun i=>f i - g i) n=sig (fun i=>f i+(-1)*g i) n:=sig_congr fun i _=>by grind
 rw [this,sig_add,sig_mul];grind
theorem opt_vertex {x0 y0:Nat→Rat} (hx:FeasP m n A b x0) (hy:FeasD m n A c y0):∃ (x y:Nat→Rat) (L:List Nat),FeasP m n A b x∧FeasD m n A c y∧sig (fun j=>c j*x j) n=sig (fun i=>b i*y i) m ∧
 L.Sublist (List.range (m+n))∧L.length=n∧(∀ i∈L,sig (fun j=>gR m A i j*x j) n=hR m b i)∧∀ d:Nat→Rat,(∀ i∈L,sig (fun j=>gR m A i j*d j) n=0)→∀ j,j<n→d j=0:=by
 obtain ⟨x,y,h1,h2,h3⟩:=opt_pair m n A b c hx hy
 obtain ⟨x',k1,k2,k3⟩:=purify n (m+n) (gR m A) (hR m b) (fun d ⟨j,hj,hne⟩=>⟨m+j,by omega,by rwa [gR_hi m n A hj]⟩) (m+n) x (Nat.le_trans (List.length_filter_le ..) (by simp)) ((feasP_g m n A b).1 h1)
 have e1:sig (fun i=>y i*(sig (fun j=>A i j*x j) n - b i)) m+sig (fun j=>(c j - sig (fun i=>A i j*y i) m)*x j) n=0:=by
  have a1:sig (fun i=>y i*(sig (fun j=>A i j*x j) n - b i)) m=sig (fun i=>y i*sig (fun j=>A i j*x j) n) m - sig (fun i=>b i*y i) m:=by
   rw [← sig_sub];exact sig_congr fun i _=>by grind
  have a2:sig (fun j=>(c j - sig (fun i=>A i j*y i) m)*x j) n=sig (fun j=>c j*x j) n - sig (fun j=>x j*sig (fun i=>A i j*y i) m) n:=by
   rw [← sig_sub];exact sig_congr fun j _=>by grind
  have a3:sig (fun i=>y i*sig (fun j=>A i j*x j) n) m=sig (fun j=>x j*sig (fun i=>A i j*y i) m) n:=by
   rw [sig_congr (fun i _=>(sig_mul (y i) _ n).symm),sig_comm,sig_congr (fun j _=>(sig_mul (x j) _ m).symm)]
   exact sig_congr fun j _=>sig_congr fun i _=>by grind
  rw [a1,a2,a3,h3];grind
 have p1:∀ i,i<m→0≤y i*(sig (fun j=>A i j*x j) n - b i):=fun i hi=>Rat.mul_nonneg (h2.1 i hi) (by have:=h1.2 i hi;grind)
 have p2:∀ j,j<n→0≤(c j - sig (fun i=>A i j*y i) m)*x j:=fun j hj=>Rat.mul_nonneg (by have:=h2.2 j hj;grind) (h1.1 j hj)
 have q1:(0:Rat)≤sig (fun i=>y i*(sig (fun j=>A i j*x j) n - b i)) m:=by have:=sig_le p1;rwa [sig_zero] at this
 have q2:(0:Rat)≤sig (fun j=>(c j - sig (fun i=>A i j*y i) m)*x j) n:=by have:=sig_le p2;rwa [sig_zero] at this
 have z1:=sig_zero_all p1 (by grind)
 have z2:=sig_zero_all p2 (by grind)
 have w1:∀ i,i<m→y i*(sig (fun j=>A i j*x' j) n - b i)=0:=fun i hi=>by
  rcases Rat.mul_eq_zero.1 (z1 i hi) with h | h
  ·rw [h];grind
  ·have:=k2 i (by omega) (by rw [gR_lo m n A hi,hR,if_pos hi];grind)
   rw [gR_lo m n A hi,hR,if_pos hi] at this
   rw [this];grind
 have w2:∀ j,j<n→(c j - sig (fun i=>A i j*y i) m)*x' j=0:=fun j hj=>by
  rcases Rat.mul_eq_zero.1 (z2 j hj) with h | h
  ·rw [h];grind
  ·have:=k2 (m+j) (by omega) (by rw [gR_hi m n A hj,hR,if_neg (by omega)];exact h)
   rw [gR_hi m n A hj,hR,if_neg (by omega)] at this
   rw [this];grind
 have e2:sig (fun j=>c j*x' j) n=sig (fun i=>b i*y i) m:=by
  have b1:=sig_const0 w1
  have b2:=sig_const0 w2
  have a1:sig (fun i=>y i*(sig (fun j=>A i j*x' j) n - b i)) m=sig (fun i=>y i*sig (fun j=>A i j*x' j) n) m - sig (fun i=>b i*y i) m:=by
   rw [← sig_sub];exact sig_congr fun i _=>by grind
  have a2:sig (fun j=>(c j - sig (fun i=>A i j*y i) m)*x' j) n=sig (fun j=>c j*x' j) n - sig (fun j=>x' j*sig (fun i=>A i j*y i) m) n:=by
   rw [← sig_sub];exact sig_congr fun j _=>by grind
  have a3:sig (fun i=>y i*sig (fun j=>A i j*x' j) n) m=sig (fun j=>x' j*sig (fun i=>A i j*y i) m) n:=by
   rw [sig_congr (fun i _=>(sig_mul (y i) _ n).symm),sig_comm,sig_congr (fun j _=>(sig_mul (x' j) _ m).symm)]
   exact sig_congr fun j _=>sig_congr fun i _=>by grind
  grind
 obtain ⟨L,l1,l2,l3⟩:=basis_sub n (gR m A) (m+n) ((List.range (m+n)).filter fun i=>decide (sig (fun j=>gR m A i j*x' j) n=hR m b i)) (Nat.le_trans (List.length_filter_le ..) (by simp)) (fun d hd=>k3 d fun i hi ht=>hd i (by simp [List.mem_filter,hi,ht]))
 exact ⟨x',y,L,(feasP_g m n A b).2 k1,h2,e2,l1.trans List.filter_sublist,l2,fun i hi=>by
  have:=l1.subset hi
  simpa using (List.mem_filter.1 this).2,l3⟩
end
end Go.Proofs.YtkohkoiegmcghaaDoor
