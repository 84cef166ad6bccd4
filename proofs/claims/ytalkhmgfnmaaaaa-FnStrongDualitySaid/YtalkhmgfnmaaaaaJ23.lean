/- Lemmas for the proof of FnMinimum, part 23 of 24: no condition of their own. -/
import Derived.Test.YtalkhmgfnmaaaaaJ21
import Derived.Test.YtalkhmgfnmaaaaaJ22
import Derived.Test.YtalkhmgfnmaaaaaJ1
import Derived.ProofKit
import Derived.OpenShut
import Derived.ShutString
import Derived.ChangeOld
import Derived.Below
import Derived.Deep.Slices
import Derived.Test.YtalkhmgfnmaaaaaJ6
import Derived.ChangeSame
namespace Go.Proofs.Ytalkhmgfnmaaaaa
set_option linter.unusedSimpArgs false
set_option linter.unusedVariables false
open Go.RowKit
def FindV (T n:Nat) (rows:List (List RatD)) (right:List RatD):Prop:=∀ (L:List Nat),L.Sublist (List.range T)→L.length=n→∀ x:Nat→Rat,
 (∀ i∈L,sig (fun k=>qv (qx (mx rows i) k)*x k) n=qv (qx right i))→(∀ d:Nat→Rat,(∀ i∈L,sig (fun k=>qv (qx (mx rows i) k)*d k) n=0)→∀ j,j<n→d j=0)→(∃ l,solF (L.map (mx rows ·)) (L.map (qx right ·))=some l∧l.length=n∧∀ i,i<n→vR (qx l i)=true∧qv (qx l i)=x i)∧∃ (D:Int) (X:Nat→Int),D ≠ 0∧D.natAbs≤34992∧∀ j,j<n→(X j).natAbs≤34992∧x j=(X j:Rat) / (D:Rat)
structure SmallLp (A:List (List RatD)) (B C:List RatD):Prop where
 lp:lpV A B C=true
 la:A.length=B.length
 ra:∀ i,i<B.length→(mx A i).length=C.length∧∀ k,k<C.length→S3 (qx (mx A i) k)
 sb:∀ i,i<B.length→S3 (qx B i)
 sc:∀ i,i<C.length→S3 (qx C i)
 n5:C.length≤5
 find:FindV (B.length+C.length) C.length (rowsF A C.length) (rightF B C.length)
theorem mvTo_at {M:List (List RatD)} {x:List RatD}:∀ {k:Nat} {l:List RatD},mvTo M x k=some l→l.length=k∧∀ i,i<k→dotF (mx M i) x=some (qx l i)
 | 0,l,h=>by simp only [mvTo,Option.some.injEq] at h;subst h;exact ⟨rfl,fun i hi=>absurd hi (Nat.not_lt_zero _)⟩
 | k+1,l,h=>by
  simp only [mvTo] at h
  split at h
  ·rename_i l0 y h1 h2
   simp only [Option.some.injEq] at h
   subst h
   obtain ⟨g1,g2⟩:=mvTo_at h1
   refine ⟨by simp [g1],fun i hi=>?_⟩
   by_cases e:i=k
   ·subst e;rw [h2];simp [qx,List.getD,← g1]
   ·rw [g2 i (by omega)]
    simp [qx,List.getD,List.getElem?_append_left (show i<l0.length by omega)]
  ·cases h
section
variable {A:List (List RatD)} {B Cc:List RatD} {l:List RatD}
theorem feas_out {sg:Int} (hsg:sg=1∨sg = -1) (h:feasF A B Cc l sg=true) (hb:∀ i,i<B.length→vR (qx B i)=true) (hAl:A.length=B.length) (hAr:∀ i,i<B.length→(mx A i).length=Cc.length):l.length=Cc.length∧(∀ i,i<Cc.length→vR (qx l i)=true∧0≤qv (qx l i)) ∧
 ∀ i,i<B.length→if sg=1 then qv (qx B i)≤sig (fun k=>vM A i k*qv (qx l k)) Cc.length else sig (fun k=>vM A i k*qv (qx l k)) Cc.length≤qv (qx B i):=by
 simp only [feasF,Bool.and_eq_true,decide_eq_true_eq] at h
 obtain ⟨_,h1,h2,h3,h4⟩:=h
 split at h4
 ·rename_i r hr
  obtain ⟨g1,g2⟩:=mvTo_at hr
  have hv:∀ i,i<Cc.length→vR (qx l i)=true:=fun i hi=>vL_at h2 (by omega)
  have hs:∀ i,i<B.length→vR (qx r i)=true∧qv (qx r i)=sig (fun k=>vM A i k*qv (qx l k)) Cc.length:=fun i hi=>by
   obtain ⟨_,k2,k3⟩:=dotF_sig (g2 i (by omega))
   rw [hAr i hi] at k3
   exact ⟨k2,k3⟩
  refine ⟨h1,fun i hi=>⟨hv i hi,(qv_nonneg (hv i hi)).2 (of_decide_eq_true (List.all_eq_true.1 h3 i (List.mem_range.2 (by omega))))⟩,fun i hi=>?_⟩
  rcases hsg with rfl | rfl
  ·rw [if_pos rfl]
   have:=(sideL_ge (fun i hi=>⟨(hs i (by omega)).1,hb i (by omega)⟩)).1 h4 i (by omega)
   rw [← (hs i hi).2];exact this
  ·rw [if_neg (by decide)]
   have:=(sideL_le (fun i hi=>⟨(hs i (by omega)).1,hb i (by omega)⟩)).1 h4 i (by omega)
   rw [← (hs i hi).2];exact this
 ·cases h4
variable (hS:SmallLp A B Cc)
include hS
theorem SmallLp.vb {i:Nat} (hi:i<B.length):vR (qx B i)=true:=(hS.sb i hi).1
theorem SmallLp.feas {sg:Int} (hsg:sg=1∨sg = -1) {x:Nat→Rat} {D:Int} {X:Nat→Int} (hl:l.length=Cc.length) (hv:∀ i,i<Cc.length→vR (qx l i)=true∧qv (qx l i)=x i) (hD:D ≠ 0) (hDb:D.natAbs≤34992) (hX:∀ k,k<Cc.length→(X k).natAbs≤34992∧x k=(X k:Rat) / (D:Rat))
 (hp:∀ j,j<Cc.length→0≤x j) (hs:∀ i,i<B.length→if sg=1 then qv (qx B i)≤sig (fun k=>vM A i k*x k) Cc.length else sig (fun k=>vM A i k*x k) Cc.length≤qv (qx B i)):feasF A B Cc l sg=true:=by
 obtain ⟨s,e,h⟩:=mv_fits (M:=A) (x:=l) hS.n5 (fun i hi=>(hS.ra i (by have:=hS.la;omega)).1) hl (fun i hi=>(hS.ra i (by have:=hS.la;omega)).2) (fun k hk=>(hv k hk).1) hD hDb (fun k hk=>⟨(hX k hk).1,by rw [(hv k hk).2];exact (hX k hk).2⟩)
 have hla:=hS.la
 have h2:∀ i,i<B.length→qv (s i)=sig (fun k=>vM A i k*x k) Cc.length:=fun i hi=>by
  rw [(h i (by omega)).2]
  exact sig_congr fun k hk=>by rw [(hv k hk).2];rfl
 have hq:∀ i,i<A.length→qx ((List.range A.length).map s) i=s i:=fun i hi=>by simp [qx,List.getD,hi]
 simp only [feasF,Bool.and_eq_true,decide_eq_true_eq]
 refine ⟨hS.lp,hl,vL_yes fun j hj=>(hv j (by omega)).1,posL_of fun i hi=>⟨(hv i (by omega)).1,by rw [(hv i (by omega)).2];exact hp i (by omega)⟩,?_⟩
 rw [e]
 have hval:∀ i,i<((List.range A.length).map s).length→vR (qx ((List.range A.length).map s) i)=true∧vR (qx B i)=true:=fun i hi=>by
  have hi':i<A.length:=by simpa using hi
  rw [hq i hi']
  exact ⟨(h i hi').1,hS.vb (by omega)⟩
 rcases hsg with rfl | rfl
 ·refine (sideL_ge hval).2 fun i hi=>?_
  have hi':i<A.length:=by simpa using hi
  rw [hq i hi',h2 i (by omega)]
  have:=hs i (by omega)
  rwa [if_pos rfl] at this
 ·refine (sideL_le hval).2 fun i hi=>?_
  have hi':i<A.length:=by simpa using hi
  rw [hq i hi',h2 i (by omega)]
  have:=hs i (by omega)
  rwa [if_neg (by decide)] at this
theorem SmallLp.vertex {sg:Int} (hsg:sg=1∨sg = -1) {x:Nat→Rat} {L:List Nat} (hL:L.Sublist (List.range (B.length+Cc.length))) (hl:L.length=Cc.length)
 (ht:∀ i∈L,sig (fun j=>gR B.length (vM A) i j*x j) Cc.length=hR B.length (fun i=>qv (qx B i)) i) (hn:∀ d:Nat→Rat,(∀ i∈L,sig (fun j=>gR B.length (vM A) i j*d j) Cc.length=0)→∀ j,j<Cc.length→d j=0)
 (hp:∀ j,j<Cc.length→0≤x j) (hs:∀ i,i<B.length→if sg=1 then qv (qx B i)≤sig (fun k=>vM A i k*x k) Cc.length else sig (fun k=>vM A i k*x k) Cc.length≤qv (qx B i)) :
 ∃ y∈vertF A B Cc sg,(y.length=Cc.length∧∀ i,i<Cc.length→vR (qx y i)=true∧qv (qx y i)=x i)∧(∃ (D:Int) (X:Nat→Int),D ≠ 0∧D.natAbs≤34992∧∀ j,j<Cc.length→(X j).natAbs≤34992∧x j=(X j:Rat) / (D:Rat))∧∃ s,dotF Cc y=some s∧qv s=sig (fun k=>qv (qx Cc k)*x k) Cc.length:=by
 have hr:=rows_s3 (n:=Cc.length) hS.la (fun i hi=>hS.ra i (by have:=hS.la;omega)) hS.sb
 have hmem:∀ i∈L,i<B.length+Cc.length:=fun i hi=>List.mem_range.1 (hL.subset hi)
 obtain ⟨⟨l,hsol,hll,hv⟩,D,X,hD,hDb,hX⟩:=hS.find L hL hl x (fun i hi=>by
  obtain ⟨_,e1,e2⟩:=hr i (hmem i hi)
  rw [e2,← ht i hi]
  exact sig_congr fun k hk=>by rw [e1 k hk];rfl) (fun d hd=>hn d fun i hi=>by
  obtain ⟨_,e1,_⟩:=hr i (hmem i hi)
  rw [← hd i hi]
  exact sig_congr fun k hk=>by rw [e1 k hk];rfl)
 have hf:=hS.feas hsg hll hv hD hDb hX hp hs
 obtain ⟨y,hy,hyl,hyq⟩:=foldl_leaf (A:=A) (B:=B) (Cc:=Cc) (sg:=sg) hsol hf (pickF (B.length+Cc.length) Cc.length 0) [] (mem_pick _ _ 0 _ (by rw [Nat.sub_zero,← List.range_eq_range'];exact hL) hl)
 rw [← vert_pick hS.lp] at hy
 have hyv:∀ i,i<Cc.length→vR (qx y i)=true∧qv (qx y i)=x i:=fun i hi=>by rw [hyq i (by omega)];exact hv i hi
 obtain ⟨s,e,hsv,w,hw,hq⟩:=dot_fits (a:=Cc) (x:=y) hS.n5 rfl (by omega) hS.sc (fun k hk=>(hyv k hk).1) hD hDb (fun k hk=>⟨(hX k hk).1,by rw [(hyv k hk).2];exact (hX k hk).2⟩) Cc.length (Nat.le_refl _)
 have hdot:dotF Cc y=some s:=by unfold dotF;rw [if_pos (by omega)];exact e
 refine ⟨y,hy,⟨by omega,hyv⟩,⟨D,X,hD,hDb,hX⟩,s,hdot,?_⟩
 obtain ⟨_,_,h3⟩:=dotF_sig hdot
 rw [h3]
 exact sig_congr fun k hk=>by rw [(hyv k hk).2]
end
section
variable {A:List (List RatD)} {B Cc:List RatD}
abbrev vL' (l:List RatD) (i:Nat):Rat:=qv (qx l i)
theorem best_dot {sg:Int} {C:List RatD} {V:List (List RatD)} (hsg:sg=1∨sg = -1) {y:List RatD} (hy:y∈V) {s:RatD} (hs:dotF C y=some s):(bestF C V sg).found=true∧(bestF C V sg).pt∈V∧dotF C (bestF C V sg).pt=some (bestF C V sg).val∧if sg=1 then qv (bestF C V sg).val≤qv s else qv s≤qv (bestF C V sg).val:=by
 obtain ⟨h1,h2⟩:=bestF_ok C V hsg
 obtain ⟨h3,h4⟩:=h2 y hy s hs
 obtain ⟨h5,h6⟩:=h1 h3
 refine ⟨h3,h5,h6,?_⟩
 rcases hsg with rfl | rfl
 ·rw [if_pos rfl];exact (cmpQ_ge (dotF_v hs) (dotF_v h6)).1 h4
 ·rw [if_neg (by decide)];exact (cmpQ_le (dotF_v hs) (dotF_v h6)).1 h4
theorem SmallLp.min (hS:SmallLp A B Cc) {x0 y0:Nat→Rat} (hx:FeasP B.length Cc.length (vM A) (vL' B) x0) (hy:FeasD B.length Cc.length (vM A) (vL' Cc) y0) :
 (bestF Cc (vertF A B Cc 1) 1).found=true∧feasF A B Cc (bestF Cc (vertF A B Cc 1) 1).pt 1=true∧dotF Cc (bestF Cc (vertF A B Cc 1) 1).pt=some (bestF Cc (vertF A B Cc 1) 1).val∧∃ y,FeasD B.length Cc.length (vM A) (vL' Cc) y∧qv (bestF Cc (vertF A B Cc 1) 1).val=sig (fun i=>vL' B i*y i) B.length:=by
 obtain ⟨x,y,L,h1,h2,h3,h4,h5,h6,h7⟩:=opt_vertex _ _ _ _ _ hx hy
 obtain ⟨p,hp,⟨_,hpv⟩,_,s,hs,hsv⟩:=hS.vertex (.inl rfl) h4 h5 h6 h7 h1.1 (fun i hi=>by rw [if_pos rfl];exact h1.2 i hi)
 obtain ⟨g1,g2,g3,g4⟩:=best_dot (.inl rfl) hp hs
 have hf:=vert_feas hS.lp _ g2
 refine ⟨g1,hf,g3,y,h2,?_⟩
 rw [if_pos rfl] at g4
 generalize bestF Cc (vertF A B Cc 1) 1=b at *
 obtain ⟨k1,k2,k3⟩:=feas_out (.inl rfl) hf (fun i hi=>hS.vb hi) hS.la (fun i hi=>(hS.ra i hi).1)
 have hw:=weak_dual (b:=vL' B) (c:=vL' Cc) (x:=vL' b.pt) (fun i hi=>by have:=k3 i hi;rwa [if_pos rfl] at this) h2.2 (fun j hj=>(k2 j hj).2) h2.1
 obtain ⟨_,_,e⟩:=dotF_sig g3
 have:sig (fun k=>qv (qx Cc k)*x k) Cc.length=sig (fun j=>vL' Cc j*x j) Cc.length:=rfl
 have:sig (fun i=>qv (qx Cc i)*qv (qx b.pt i)) Cc.length=sig (fun j=>vL' Cc j*vL' b.pt j) Cc.length:=rfl
 grind
theorem sig_neg (f:Nat→Rat) (n:Nat):sig (fun i=>- f i) n = - sig f n:=by
 have:sig (fun i=>- f i) n=sig (fun i=>(-1)*f i) n:=sig_congr fun i _=>by grind
 rw [this,sig_mul];grind
theorem sig_negL (f g:Nat→Rat) (n:Nat):sig (fun i=>- f i*g i) n = - sig (fun i=>f i*g i) n:=by
 rw [← sig_neg];exact sig_congr fun i _=>by grind
theorem SmallLp.max (hS:SmallLp A B Cc) {x0 y0:Nat→Rat} (h0:∀ j,j<Cc.length→0≤x0 j) (hx:∀ i,i<B.length→sig (fun k=>vM A i k*x0 k) Cc.length≤vL' B i) (h0':∀ i,i<B.length→0≤y0 i) (hy:∀ j,j<Cc.length→vL' Cc j≤sig (fun i=>vM A i j*y0 i) B.length) :
 (bestF Cc (vertF A B Cc (-1)) (-1)).found=true∧feasF A B Cc (bestF Cc (vertF A B Cc (-1)) (-1)).pt (-1)=true∧dotF Cc (bestF Cc (vertF A B Cc (-1)) (-1)).pt=some (bestF Cc (vertF A B Cc (-1)) (-1)).val∧∃ y:Nat→Rat,(∀ i,i<B.length→0≤y i)∧(∀ j,j<Cc.length→vL' Cc j≤sig (fun i=>vM A i j*y i) B.length)∧qv (bestF Cc (vertF A B Cc (-1)) (-1)).val=sig (fun i=>vL' B i*y i) B.length:=by
 obtain ⟨x,y,L,h1,h2,h3,h4,h5,h6,h7⟩:=opt_vertex B.length Cc.length (fun i j=>- vM A i j) (fun i=>- vL' B i) (fun j=>- vL' Cc j) (x0:=x0) (y0:=y0)
  ⟨h0,fun i hi=>by rw [sig_negL];have:=hx i hi;grind⟩ ⟨h0',fun j hj=>by rw [sig_negL];have:=hy j hj;grind⟩
 have hg:∀ (i:Nat) (d:Nat→Rat),sig (fun j=>gR B.length (fun i j=>- vM A i j) i j*d j) Cc.length=if i<B.length then - sig (fun j=>gR B.length (vM A) i j*d j) Cc.length else sig (fun j=>gR B.length (vM A) i j*d j) Cc.length:=fun i d=>by
  split
  ·rename_i h
   rw [gR_lo _ _ _ h,gR_lo _ _ _ h,sig_negL]
  ·rename_i h
   exact sig_congr fun k _=>by simp only [gR,h,if_false]
 have hh:∀ i:Nat,hR B.length (fun i=>- vL' B i) i=if i<B.length then - hR B.length (vL' B) i else hR B.length (vL' B) i:=fun i=>by
  unfold hR;split <;> rfl
 obtain ⟨p,hp,⟨_,hpv⟩,_,s,hs,hsv⟩:=hS.vertex (.inr rfl) h4 h5 (fun i hi=>by
  have:=h6 i hi
  rw [hg,hh] at this
  split at this
  ·have:=congrArg Neg.neg this;rwa [Rat.neg_neg,Rat.neg_neg] at this
  ·exact this) (fun d hd=>h7 d fun i hi=>by
  rw [hg,hd i hi];split <;> grind) h1.1 (fun i hi=>by rw [if_neg (by decide)];have:=h1.2 i hi;rw [sig_negL] at this;have e:qv (qx B i)=vL' B i:=rfl;grind)
 obtain ⟨g1,g2,g3,g4⟩:=best_dot (.inr rfl) hp hs
 have hf:=vert_feas hS.lp _ g2
 have d2:∀ j,j<Cc.length→vL' Cc j≤sig (fun i=>vM A i j*y i) B.length:=fun j hj=>by have:=h2.2 j hj;rw [sig_negL] at this;grind
 refine ⟨g1,hf,g3,y,h2.1,d2,?_⟩
 rw [if_neg (by decide)] at g4
 generalize bestF Cc (vertF A B Cc (-1)) (-1)=b at *
 obtain ⟨k1,k2,k3⟩:=feas_out (.inr rfl) hf (fun i hi=>hS.vb hi) hS.la (fun i hi=>(hS.ra i hi).1)
 have hw:=weak_dual (m:=Cc.length) (n:=B.length) (A:=fun j i=>vM A i j) (b:=vL' Cc) (c:=vL' B) (x:=y) (y:=vL' b.pt) d2 (fun i hi=>by have:=k3 i hi;rwa [if_neg (by decide)] at this) h2.1 (fun j hj=>(k2 j hj).2)
 obtain ⟨_,_,e⟩:=dotF_sig g3
 have:sig (fun k=>qv (qx Cc k)*x k) Cc.length=sig (fun j=>vL' Cc j*x j) Cc.length:=rfl
 have:sig (fun i=>qv (qx Cc i)*qv (qx b.pt i)) Cc.length=sig (fun j=>vL' Cc j*vL' b.pt j) Cc.length:=rfl
 rw [sig_negL,sig_negL] at h3
 grind
end
theorem opt_same {m n:Nat} {A:Nat→Nat→Rat} {b c x y x' y':Nat→Rat} (h1:FeasP m n A b x) (h2:FeasD m n A c y) (e1:sig (fun j=>c j*x j) n=sig (fun i=>b i*y i) m) (h3:FeasP m n A b x') (h4:FeasD m n A c y') (e2:sig (fun i=>b i*y' i) m=sig (fun j=>c j*x' j) n):sig (fun j=>c j*x j) n=sig (fun i=>b i*y' i) m:=by
 have w1:=weak_dual h1.2 h4.2 h1.1 h4.1
 have w2:=weak_dual h3.2 h2.2 h3.1 h2.1
 grind
theorem s3_of {x:RatD} (h:Q3 x) (hv:vR x=true):S3 x:=by
 have:=vR_pos hv
 obtain ⟨⟨h1,h2⟩,h3,h4⟩:=h
 exact ⟨hv,by omega,by omega⟩
theorem mem_qx {l:List RatD} {i:Nat} (h:i<l.length):qx l i∈l:=by simp [qx,List.getD,h]
theorem mem_mx {l:List (List RatD)} {i:Nat} (h:i<l.length):mx l i∈l:=by simp [mx,List.getD,h]
section
variable {A:List (List RatD)} {B C:List RatD}
theorem small_of (hlp:lpV A B C=true) (hn:C.length≤3) (ha:∀ i,i<B.length→∀ k,k<C.length→S3 (qx (mx A i) k)) (hb:∀ i,i<B.length→S3 (qx B i)) (hc:∀ i,i<C.length→S3 (qx C i)):SmallLp A B C:=by
 obtain ⟨⟨c1,_⟩,_,hm,_,_⟩:=lpV_out hlp
 obtain ⟨m1,m2⟩:=matOK_out hm
 have hr:=rows_s3 (n:=C.length) m1 (fun i hi=>⟨(m2 i hi).1,ha i (by omega)⟩) hb
 exact ⟨hlp,m1,fun i hi=>⟨(m2 i (by omega)).1,ha i hi⟩,hb,hc,by omega,fun L hL hl x ht hnull=>vertex_found c1 hn (fun i hi=>(hr i hi).1) hL hl ht hnull⟩
theorem tr_len (A:List (List RatD)) (n:Nat):(trQ A n).length=n:=by simp [trQ]
theorem tr_row {A:List (List RatD)} {n k:Nat} (h:k<n):mx (trQ A n) k=A.map fun r=>qx r k:=by simp [trQ,mx,List.getD,h]
theorem tr_at {A:List (List RatD)} {n k i:Nat} (h:k<n) (hi:i<A.length):qx (mx (trQ A n) k) i=qx (mx A i) k:=by rw [tr_row h];simp [qx,mx,List.getD,hi]
theorem tr_lp (hlp:lpV A B C=true):lpV (trQ A C.length) C B=true:=by
 obtain ⟨⟨c1,c2⟩,⟨b1,b2⟩,hm,hb,hc⟩:=lpV_out hlp
 obtain ⟨m1,m2⟩:=matOK_out hm
 simp only [lpV,Bool.and_eq_true]
 refine ⟨decide_eq_true (by omega),decide_eq_true (by omega),?_,hc,hb⟩
 simp only [matOK,Bool.and_eq_true]
 refine ⟨decide_eq_true (tr_len _ _),matOK_rows fun j hj=>?_⟩
 rw [tr_len] at hj
 simp only [rowV,Bool.and_eq_true]
 refine ⟨decide_eq_true (by rw [tr_row hj,List.length_map];exact m1),vL_yes fun i hi=>?_⟩
 have hi':i<A.length:=by rw [tr_row hj,List.length_map] at hi;exact hi
 rw [tr_at hj hi']
 exact vL_at (m2 i hi').2 (by rw [(m2 i hi').1];exact hj)
theorem tr_small (hlp:lpV A B C=true) (hn:B.length≤3) (ha:∀ i,i<B.length→∀ k,k<C.length→S3 (qx (mx A i) k)) (hb:∀ i,i<B.length→S3 (qx B i)) (hc:∀ i,i<C.length→S3 (qx C i)):SmallLp (trQ A C.length) C B:=by
 obtain ⟨m1,_⟩:=matOK_out (lpV_out hlp).2.2.1
 refine small_of (tr_lp hlp) hn (fun i hi k hk=>?_) hc hb
 rw [tr_at hi (by omega)]
 exact ha k hk i hi
theorem tr_vM (hm:A.length=B.length) {k i:Nat} (hk:k<C.length) (hi:i<B.length):vM (trQ A C.length) k i=vM A i k:=by unfold vM;rw [tr_at hk (by omega)]
theorem cmpQ_same {x y:RatD} (hx:vR x=true) (hy:vR y=true) (h:qv x=qv y):cmpQ x y=0:=by
 have h1:=(cmpQ_ge hx hy).2 (by rw [h];exact Rat.le_refl)
 have h2:=(cmpQ_le hx hy).2 (by rw [h];exact Rat.le_refl)
 omega
theorem dual_val (hS:SmallLp A B C) (hT:SmallLp (trQ A C.length) C B) {x0 y0:Nat→Rat} (hx:FeasP B.length C.length (vM A) (vL' B) x0) (hy:FeasD B.length C.length (vM A) (vL' C) y0) :
 (bestF C (vertF A B C 1) 1).found=true∧(bestF B (vertF (trQ A C.length) C B (-1)) (-1)).found=true∧qv (bestF C (vertF A B C 1) 1).val=qv (bestF B (vertF (trQ A C.length) C B (-1)) (-1)).val∧vR (bestF C (vertF A B C 1) 1).val=true∧vR (bestF B (vertF (trQ A C.length) C B (-1)) (-1)).val=true:=by
 have hla:=hS.la
 obtain ⟨f1,f2,f3,y,f4,f5⟩:=hS.min hx hy
 obtain ⟨g1,g2,g3,x,g4,g5,g6⟩:=hT.max (x0:=y0) (y0:=x0) hy.1 (fun j hj=>by
  have:=hy.2 j hj
  rwa [sig_congr fun i hi=>by rw [← tr_vM (A:=A) (C:=C) (B:=B) hla hj hi]] at this) hx.1 (fun i hi=>by
  have:=hx.2 i hi
  rwa [sig_congr fun j hj=>by rw [← tr_vM (A:=A) (C:=C) (B:=B) hla hj hi]] at this)
 refine ⟨f1,g1,?_,dotF_v f3,dotF_v g3⟩
 obtain ⟨_,a2,a3⟩:=feas_out (.inl rfl) f2 (fun i hi=>hS.vb hi) hS.la (fun i hi=>(hS.ra i hi).1)
 obtain ⟨_,b2,b3⟩:=feas_out (.inr rfl) g2 (fun i hi=>hT.vb hi) hT.la (fun i hi=>(hT.ra i hi).1)
 obtain ⟨_,_,ev⟩:=dotF_sig f3
 obtain ⟨_,_,eu⟩:=dotF_sig g3
 generalize bestF C (vertF A B C 1) 1=p at *
 generalize bestF B (vertF (trQ A C.length) C B (-1)) (-1)=q at *
 have k1:FeasP B.length C.length (vM A) (vL' B) (vL' p.pt):=⟨fun j hj=>(a2 j hj).2,fun i hi=>by have:=a3 i hi;rwa [if_pos rfl] at this⟩
 have k4:FeasD B.length C.length (vM A) (vL' C) (vL' q.pt):=⟨fun i hi=>(b2 i hi).2,fun j hj=>by
  have:=b3 j hj
  rw [if_neg (by decide)] at this
  rwa [sig_congr fun i hi=>by rw [tr_vM (A:=A) (C:=C) (B:=B) hla hj hi]] at this⟩
 have k3:FeasP B.length C.length (vM A) (vL' B) x:=⟨g4,fun i hi=>by
  have:=g5 i hi
  rwa [sig_congr fun j hj=>by rw [tr_vM (A:=A) (C:=C) (B:=B) hla hj hi]] at this⟩
 have:=opt_same k1 f4 (by rw [← f5,ev]) k3 k4 (by rw [← g6,eu])
 rw [ev,eu];exact this
theorem fit_s3 (hF:LpFit A B C) (hlp:lpV A B C=true):(∀ i,i<B.length→∀ k,k<C.length→S3 (qx (mx A i) k))∧(∀ i,i<B.length→S3 (qx B i))∧(∀ i,i<C.length→S3 (qx C i)):=by
 obtain ⟨_,_,hm,hb,hc⟩:=lpV_out hlp
 obtain ⟨m1,m2⟩:=matOK_out hm
 refine ⟨fun i hi k hk=>?_,fun i hi=>s3_of (hF.bq _ (mem_qx hi)) (vL_at hb hi),fun i hi=>s3_of (hF.cq _ (mem_qx hi)) (vL_at hc hi)⟩
 obtain ⟨r1,r2⟩:=m2 i (by omega)
 exact s3_of ((hF.r _ (mem_mx (by omega))).2 _ (mem_qx (by omega))) (vL_at r2 (by omega))
theorem strong_law (hF:LpFit A B C) (h1:(mnF A B C).found=true) (h2:(mxF (trQ A C.length) C B).found=true):cmpQ (mxF (trQ A C.length) C B).val (mnF A B C).val=0:=by
 unfold mnF at h1 ⊢
 unfold mxF at h2 ⊢
 split at h1
 ·rename_i c1
  split at h2
  ·rename_i c2
   rw [if_pos c1,if_pos c2]
   obtain ⟨s1,s2,s3⟩:=fit_s3 hF c1.1
   have hS:=small_of c1.1 hF.c s1 s2 s3
   have hT:=tr_small c1.1 hF.b s1 s2 s3
   have hla:=hS.la
   obtain ⟨p1,p2⟩:=(bestF_ok C (vertF A B C 1) (.inl rfl)).at' h1
   obtain ⟨q1,q2⟩:=(bestF_ok B (vertF (trQ A C.length) C B (-1)) (.inr rfl)).at' h2
   obtain ⟨_,a2,a3⟩:=feas_out (.inl rfl) (vert_feas c1.1 _ p1) (fun i hi=>hS.vb hi) hS.la (fun i hi=>(hS.ra i hi).1)
   obtain ⟨_,b2,b3⟩:=feas_out (.inr rfl) (vert_feas c2.1 _ q1) (fun i hi=>hT.vb hi) hT.la (fun i hi=>(hT.ra i hi).1)
   obtain ⟨_,_,e,v1,v2⟩:=dual_val hS hT (x0:=vL' (bestF C (vertF A B C 1) 1).pt) (y0:=vL' (bestF B (vertF (trQ A C.length) C B (-1)) (-1)).pt)
    ⟨fun j hj=>(a2 j hj).2,fun i hi=>by have:=a3 i hi;rwa [if_pos rfl] at this⟩
    ⟨fun i hi=>(b2 i hi).2,fun j hj=>by
     have:=b3 j hj
     rw [if_neg (by decide)] at this
     rwa [sig_congr fun i hi=>by rw [tr_vM (A:=A) (C:=C) (B:=B) hla hj hi]] at this⟩
   exact cmpQ_same v2 v1 e.symm
  ·cases h2
 ·cases h1
end
end Go.Proofs.Ytalkhmgfnmaaaaa
namespace Go.Proofs.Ytalkhmgfnmaaaaa
set_option linter.unusedSimpArgs false
set_option linter.unusedVariables false
open Go.ChangeShapes Go.WideShapes Go.ChangeAt Go.RowKit Go.Deep
theorem own:ownKnob Try.prog.godebug=none:=by kernel_rfl
theorem laidOut:laidOutB Try.prog=true:=by kernel_rfl
def ReadsBy {α:Type} (R:Rep α) (t:TypeId):Prop :=
 ∀ {H:Type} (enc:TypeId×Value→H) (W:World) (fuel:Nat) (cs:List Value) (x:DataW H×List MemPlace),DataW.trod enc Try.prog W 0 (fun _=>true) true fuel t cs=some x→∃ y,R false 0 W.heap.size W cs y
theorem cells_at {w:World} {base:Nat} {a:Addr} {k:Nat} {cs:List Value} (h:w.cells? base a k=some cs):cs.length=k∧∀ j,j<k→w.cell? (a.add j)=some (cs.getD j undef):=by
 obtain ⟨_,hlen,hc⟩:=World.cells?_some h
 exact ⟨hlen,fun j hj=>by
  have:=hc j (by omega)
  simpa [List.getD,List.getElem?_eq_getElem (show j<cs.length by omega)] using this⟩
theorem reads_slice {α:Type} {R:Rep α} {t e k:Nat} (ht:Try.prog.underlying t=some (.slice e)) (hk:Try.prog.cellsOf e=k) (hk0:0<k) (hR:ReadsBy R e) :
 ∀ {H:Type} (enc:TypeId×Value→H) (W:World) (fuel:Nat) (cs:List Value) (x:DataW H×List MemPlace),DataW.trod enc Try.prog W 0 (fun _=>true) true fuel t cs=some x →
  ∃ a n c xs,cs=[.slice a n c]∧SlA k R false 0 W.heap.size W a n c xs:=by
 intro H enc W fuel cs x h
 rcases open_slice ht h with ⟨hcs,_⟩ | ⟨a,len,cap,m,n,D,Pl,rfl,_,hl,hm,hmm,_,hx⟩
 ·exact ⟨none,0,0,[],hcs,rfl,Nat.le_refl _,by simp [maxLen],fun h=>by omega,fun _=>rfl⟩
 ·simp only [if_true] at hmm
  subst hmm
  rw [hk] at hx
  have each:∀ i,i<m→∃ y:List Value×α,y.1.length=k∧R false 0 W.heap.size W y.1 y.2∧∀ j,j<k→W.cell? ((a.add (i*k)).add j)=some (y.1.getD j undef):=by
   intro i hi
   obtain ⟨cs',h1,h2⟩:=hx i hi
   obtain ⟨y,hy⟩:=hR enc W n cs' _ h2
   obtain ⟨g1,g2⟩:=cells_at h1
   exact ⟨(cs',y),g1,hy,g2⟩
  refine ⟨some a,len,m,?_⟩
  by_cases hm0:m=0
  ·refine ⟨[],rfl,?_,hl,hm,fun h=>by omega,fun h=>(by cases h)⟩
   simp;omega
  ·haveI:Inhabited α:=⟨(Classical.choose (each 0 (by omega))).2⟩
   obtain ⟨y,hy⟩:=choose_lt each
   obtain ⟨b,off,spot⟩:=a
   have h1:=(hy 0 (by omega)).2.2 0 hk0
   have hspot:spot=none:=by
    cases spot with
    | none=>rfl
    | some s=>simp [Addr.add,World.cell?] at h1;split at h1 <;> simp at h1
   subst hspot
   have hblk:=World.block_lt_of_cell? W _ h1
   refine ⟨(List.range len).map fun i=>(y i).2,rfl,by simp,hl,hm,fun hn=>⟨b,off,rfl,Nat.zero_le _,by simpa [Addr.add] using hblk,fun i hi=>?_⟩,fun h=>(by cases h)⟩
   obtain ⟨g1,g2,g3⟩:=hy i (by omega)
   refine ⟨(y i).1,(y i).2,g1,by simp [hi],g2,fun j hj=>⟨?_,fun h=>(by cases h)⟩⟩
   have:=g3 j hj
   rwa [Addr.add_lit,Addr.add_lit] at this
end Go.Proofs.Ytalkhmgfnmaaaaa
namespace Go.Proofs.Ytalkhmgfnmaaaaa
set_option linter.unusedSimpArgs false
set_option linter.unusedVariables false
open Go.ChangeShapes Go.WideShapes Go.ChangeAt Go.RowKit Go.Deep
def byteR:Rep Int:=fun _ _ _ _ cs x=>cs=[.int .u8 x]∧0≤x∧x≤255
abbrev BytesA:=SlA 1 byteR
theorem u8_of_wf {x:Int} (h:(Lit.int .u8 x).wf=true):0≤x∧x≤255:=by
 simp [Lit.wf,IntKind.min,IntKind.max,IntKind.bits,IntKind.signed] at h
 omega
theorem cellsU8:Try.prog.cellsOf 5=1:=by kernel_rfl
theorem reads_byte:ReadsBy byteR 5:=by
 intro H enc W fuel cs x h
 obtain ⟨n,rfl,_,hw⟩:=DataW.trod_int Try.underlying5 h
 exact ⟨n,rfl,u8_of_wf hw⟩
theorem reads_bytes {H:Type} (enc:TypeId×Value→H) (W:World) (fuel:Nat) (cs:List Value) (x:DataW H×List MemPlace) (h:DataW.trod enc Try.prog W 0 (fun _=>true) true fuel 22 cs=some x) :
 ∃ a n c xs,cs=[.slice a n c]∧BytesA false 0 W.heap.size W a n c xs:=reads_slice Try.underlying22 cellsU8 (by omega) reads_byte enc W fuel cs x h
theorem bytes_cx {C:Nat→Nat→Prop} {fz:Bool} {lo hi:Nat} {w:World} {a:Option Addr} {n c:Nat} {xs:List Int} (h:BytesA fz lo hi w a n c xs) (hC:∀ b i,lo≤b→b<hi→C b i):CX C w (.sl 1 (xs.map .byte)) [.slice a n c]:=by
 have h1:=h.len
 obtain ⟨_,h2,h3,h4,h5⟩:=h
 have key:0<n→∃ b off,a=some ⟨b,off,none⟩∧lo≤b∧b<hi∧∀ i (hi':i<xs.length),(0≤xs[i]∧xs[i]≤255)∧w.cell? ⟨b,off+i,none⟩=some (.int .u8 xs[i]):=fun hn=>by
  obtain ⟨b,off,ha,hl,hb,hc⟩:=h4 hn
  refine ⟨b,off,ha,hl,hb,fun i hi'=>?_⟩
  obtain ⟨cs,x,g1,g2,⟨rfl,g3⟩,g4⟩:=hc i (by omega)
  rw [List.getElem?_eq_getElem hi'] at g2
  cases g2
  exact ⟨g3,by simpa using (g4 0 (by omega)).1⟩
 refine ⟨a,n,c,xs.map (fun x=>Value.int .u8 x),rfl,by simpa using h1,CXk.singles.2 ⟨by simp,fun i x hx=>?_⟩,by simp [h1],h2,h3,h5,?_,fun hn=>?_⟩
 ·rw [List.getElem?_map] at hx
  cases e:xs[i]? with
  | none=>rw [e] at hx;cases hx
  | some y =>
   rw [e] at hx;cases hx
   have hi':=(List.getElem?_eq_some_iff.1 e).1
   obtain ⟨b,off,_,_,_,hk⟩:=key (by omega)
   have hy:xs[i]=y:=(List.getElem?_eq_some_iff.1 e).2
   have:=(hk i hi').1
   rw [hy] at this
   exact ⟨.int .u8 y,by rw [List.getElem?_map,e];rfl,rfl,this⟩
 ·intro u hu
  obtain ⟨y,_,rfl⟩:=List.mem_map.1 hu
  rfl
 ·obtain ⟨b,off,ha,hl,hb,hk⟩:=key hn
  refine ⟨b,off,ha,fun i u hu=>⟨hC _ _ hl hb,?_⟩⟩
  rw [List.getElem?_map] at hu
  cases e:xs[i]? with
  | none=>rw [e] at hu;cases hu
  | some y =>
   rw [e] at hu;cases hu
   obtain ⟨hi',hy⟩:=List.getElem?_eq_some_iff.1 e
   have:=(hk i hi').2
   rw [hy] at this
   exact this
end Go.Proofs.Ytalkhmgfnmaaaaa
namespace Go.Proofs.Ytalkhmgfnmaaaaa
set_option linter.unusedSimpArgs false
set_option linter.unusedVariables false
attribute [local go_sem ↓] reduceIte
attribute [local go_sem] Nat.reduceEqDiff Nat.reduceLT Nat.reduceAdd Nat.reduceLeDiff Nat.reduceMul Nat.reduceBEq Nat.reduceSub reduceCtorEq Int.reduceLE Int.reduceNeg Int.reduceLT
open Go.RowKit
theorem drawDualA (code:List Int) (hl:code.length≤1048576):AFn 6 [.d (.sl 1 (code.map .byte))] [] (fun r os=>(∃ A B C,LpFit A B C∧r=.d (lpD A B C))∧os=[]):=by
 refine afn_of (rv:=[.cell 2 27]) tyT_ok Try.func6 rfl (by decide +kernel) Try.ntmps6 rfl (by simp) ?_
 repeat' (first | refine sq ?_ | refine stp ?_ | refine blk_o (by decide) ?_ | (apply cb;(focus (simp (disch:=(first | omega | (simp;omega))) only [go_sem,w64];try exact rfl));refine cok ?_) | (refine rgT ?_;intro K hK) | (refine dA ?_;intro K hK) | (with_reducible refine hK _ ?_;clear hK K) | (refine stq ?_;simp (disch:=(first | omega | (simp;omega))) only [go_sem,w64]) | refine as1 ?_ | fail)
 refine call2 (l1NewA code hl) ?_
 repeat' (first | refine sq ?_ | refine stp ?_ | refine blk_o (by decide) ?_ | (apply cb;(focus (simp (disch:=(first | omega | (simp;omega))) only [go_sem,w64];try exact rfl));refine cok ?_) | (refine rgT ?_;intro K hK) | (refine dA ?_;intro K hK) | (with_reducible refine hK _ ?_;clear hK K) | (refine stq ?_;simp (disch:=(first | omega | (simp;omega))) only [go_sem,w64]) | refine as1 ?_ | fail)
 (refine callL 4 (l14LpA) ?_)
 rintro r os ⟨⟨A,B,C,hF,rfl⟩,rfl⟩
 refine ⟨by decide,?_⟩
 repeat' (first | refine sq ?_ | refine stp ?_ | refine blk_o (by decide) ?_ | (apply cb;(focus (simp (disch:=(first | omega | (simp;omega))) only [go_sem,w64,lpD];try exact rfl));refine cok ?_) | (refine rgT ?_;intro K hK) | (refine dA ?_;intro K hK) | (with_reducible refine hK _ ?_;clear hK K) | (refine stq ?_;simp (disch:=(first | omega | (simp;omega))) only [go_sem,w64,lpD]) | refine as1 ?_ | fail)
 refine end0 0 (.inr rfl) (by simp (disch:=(first | omega | (simp;omega))) only [go_sem,w64];rfl) (r:=.d (lpD A B C)) (by simp (disch:=(first | omega | (simp;omega))) only [go_sem,w64,lpD];exact .refl _) ⟨⟨_,_,_,hF,rfl⟩,rfl⟩
section
variable (A:List (List RatD)) (B C x:List RatD) (hA:A.length≤1048576) (hr:∀ i,i<A.length→(mx A i).length≤1048576) (hB:B.length≤1048576) (hC:C.length≤1048576) (hx:x.length≤1048576)
include hA hr hB hC hx
theorem implFeasMaxA:AFn 13 [.d (lpD A B C),.d (ratsD x)] [] (fun r os=>r=.d (.bool (feasF A B C x (-1)))∧os=[]):=by
 refine afn_of (rv:=[.tmp 4]) tyT_ok Try.func13 rfl (by decide +kernel) Try.ntmps13 rfl (by simp) ?_
 repeat' (first | refine sq ?_ | refine stp ?_ | refine blk_o (by decide) ?_ | (apply cb;(focus (simp (disch:=(first | omega | (simp;omega))) only [go_sem,w64,lpD];try exact rfl));refine cok ?_) | (refine rgT ?_;intro K hK) | (refine dA ?_;intro K hK) | (with_reducible refine hK _ ?_;clear hK K) | (refine stq ?_;simp (disch:=(first | omega | (simp;omega))) only [go_sem,w64,lpD]) | refine as1 ?_ | fail)
 (first | refine callA (implFeasA A B C x (-1) hA hr hB hC hx (.inr rfl)) ?_ | refine callD (implFeasA A B C x (-1) hA hr hB hC hx (.inr rfl)) ?_ | refine callE (implFeasA A B C x (-1) hA hr hB hC hx (.inr rfl)) ?_ | refine callF (implFeasA A B C x (-1) hA hr hB hC hx (.inr rfl)) ?_ ?_)
 repeat' (first | refine sq ?_ | refine stp ?_ | refine blk_o (by decide) ?_ | (apply cb;(focus (simp (disch:=(first | omega | (simp;omega))) only [go_sem,w64];try exact rfl));refine cok ?_) | (refine rgT ?_;intro K hK) | (refine dA ?_;intro K hK) | (with_reducible refine hK _ ?_;clear hK K) | (refine stq ?_;simp (disch:=(first | omega | (simp;omega))) only [go_sem,w64]) | refine as1 ?_ | fail)
 (refine endA (r:=.d (.bool (feasF A B C x (-1)))) ?_)
 exact ⟨rfl,rfl⟩
end
theorem fit_szS {A:List (List RatD)} {B C:List RatD} (h:LpFit A B C):A.length≤1048576∧(∀ i,i<A.length→(mx A i).length≤1048576)∧B.length≤1048576∧C.length≤1048576:=by
 have:=h.a;have:=h.b;have:=h.c
 exact ⟨by omega,fun i hi=>by have:=(h.r (mx A i) (by simp [mx,hi])).1;omega,by omega,by omega⟩
theorem mxF_feas {A:List (List RatD)} {B C:List RatD} (h:(mxF A B C).found=true):feasF A B C (mxF A B C).pt (-1)=true:=by
 unfold mxF at h ⊢
 split at h
 ·rename_i hc
  rw [if_pos hc]
  exact vert_feas hc.1 _ ((bestF_ok C (vertF A B C (-1)) (.inr rfl)).at' h).1
 ·cases h
set_option maxHeartbeats 4000000 in
theorem lawStrongA (code:List Int) (hl:code.length≤9223372036854775807):AFn 3 [.d (.sl 1 (code.map .byte))] [] (fun r os=>r=.d (.bool true)∧os=[]):=by
 refine afn_of (rv:=[.tmp 2]) tyT_ok Try.func3 rfl (by decide +kernel) Try.ntmps3 rfl (by simp) ?_
 by_cases hb:(1048576:Int)<(code.length:Nat)
 ·repeat' (first | refine sq ?_ | refine stp ?_ | refine blk_o (by decide) ?_ | (apply cb;(focus (simp (disch:=(first | omega | (simp;omega))) only [go_sem,w64];try exact rfl));refine cok ?_) | (refine rgT ?_;intro K hK) | (refine dA ?_;intro K hK) | (with_reducible refine hK _ ?_;clear hK K) | (refine stq ?_;simp (disch:=(first | omega | (simp;omega))) only [go_sem,w64]) | refine as1 ?_ | fail)
  (first | refine callA (bigA code hl) ?_ | refine callD (bigA code hl) ?_ | refine callE (bigA code hl) ?_ | refine callF (bigA code hl) ?_ ?_)
  repeat' (first | refine sq ?_ | refine stp ?_ | refine blk_o (by decide) ?_ | (apply cb;(focus (simp (disch:=(first | omega | (simp;omega))) only [go_sem,w64,hb];try exact rfl));refine cok ?_) | (refine rgT ?_;intro K hK) | (refine dA ?_;intro K hK) | (with_reducible refine hK _ ?_;clear hK K) | (refine stq ?_;simp (disch:=(first | omega | (simp;omega))) only [go_sem,w64,hb]) | refine as1 ?_ | fail)
  (refine endA (r:=.d (.bool true)) ?_)
  exact ⟨rfl,rfl⟩
 have hb':(1048576:Int)<(code.length:Nat)↔False:=iff_of_false hb id
 have hc:code.length≤1048576:=by omega
 repeat' (first | refine sq ?_ | refine stp ?_ | refine blk_o (by decide) ?_ | (apply cb;(focus (simp (disch:=(first | omega | (simp;omega))) only [go_sem,w64];try exact rfl));refine cok ?_) | (refine rgT ?_;intro K hK) | (refine dA ?_;intro K hK) | (with_reducible refine hK _ ?_;clear hK K) | (refine stq ?_;simp (disch:=(first | omega | (simp;omega))) only [go_sem,w64]) | refine as1 ?_ | fail)
 (first | refine callA (bigA code hl) ?_ | refine callD (bigA code hl) ?_ | refine callE (bigA code hl) ?_ | refine callF (bigA code hl) ?_ ?_)
 repeat' (first | refine sq ?_ | refine stp ?_ | refine blk_o (by decide) ?_ | (apply cb;(focus (simp (disch:=(first | omega | (simp;omega))) only [go_sem,w64,hb'];try exact rfl));refine cok ?_) | (refine rgT ?_;intro K hK) | (refine dA ?_;intro K hK) | (with_reducible refine hK _ ?_;clear hK K) | (refine stq ?_;simp (disch:=(first | omega | (simp;omega))) only [go_sem,w64,hb']) | refine as1 ?_ | fail)
 refine callE (drawDualA code hc) ?_
 rintro r os ⟨⟨A,B,C,hF,rfl⟩,rfl⟩
 obtain ⟨hA,hr,hB,hC⟩:=fit_szS hF
 refine ⟨by decide,?_⟩
 have hmn:=implMinA A B C hA hr hB hC
 have hlpS:=specLpA A B C hA hB hC
 repeat' (first | refine sq ?_ | refine stp ?_ | refine blk_o (by decide) ?_ | (apply cb;(focus (simp (disch:=(first | omega | (simp;omega))) only [go_sem,w64,lpD];try exact rfl));refine cok ?_) | (refine rgT ?_;intro K hK) | (refine dA ?_;intro K hK) | (with_reducible refine hK _ ?_;clear hK K) | (refine stq ?_;simp (disch:=(first | omega | (simp;omega))) only [go_sem,w64,lpD]) | refine as1 ?_ | fail)
 (first | refine callA (implDualA A B C hA hr hB hC) ?_ | refine callD (implDualA A B C hA hr hB hC) ?_ | refine callE (implDualA A B C hA hr hB hC) ?_ | refine callF (implDualA A B C hA hr hB hC) ?_ ?_)
 cases hlp:lpV A B C with
 | false =>
  have hd:dlF A B C=⟨[],[],[],false⟩:=by unfold dlF;rw [if_neg (by rw [hlp];simp)]
  have hm:mnF A B C=best0:=by unfold mnF;rw [if_neg (by rw [hlp];simp)]
  rw [hm] at hmn
  rw [hlp] at hlpS
  repeat' (first | refine sq ?_ | refine stp ?_ | refine blk_o (by decide) ?_ | (apply cb;(focus (simp (disch:=(first | omega | (simp;omega))) only [go_sem,w64,hd,ansP,lpD];try exact rfl));refine cok ?_) | (refine rgT ?_;intro K hK) | (refine dA ?_;intro K hK) | (with_reducible refine hK _ ?_;clear hK K) | (refine stq ?_;simp (disch:=(first | omega | (simp;omega))) only [go_sem,w64,hd,ansP,lpD]) | refine as1 ?_ | fail)
  (first | refine callA (hmn) ?_ | refine callD (hmn) ?_ | refine callE (hmn) ?_ | refine callF (hmn) ?_ ?_)
  repeat' (first | refine sq ?_ | refine stp ?_ | refine blk_o (by decide) ?_ | (apply cb;(focus (simp (disch:=(first | omega | (simp;omega))) only [go_sem,w64,ansB,ratDV,lpD,best0];try exact rfl));refine cok ?_) | (refine rgT ?_;intro K hK) | (refine dA ?_;intro K hK) | (with_reducible refine hK _ ?_;clear hK K) | (refine stq ?_;simp (disch:=(first | omega | (simp;omega))) only [go_sem,w64,ansB,ratDV,lpD,best0]) | refine as1 ?_ | fail)
  (first | refine callA (hlpS) ?_ | refine callD (hlpS) ?_ | refine callE (hlpS) ?_ | refine callF (hlpS) ?_ ?_)
  repeat' (first | refine sq ?_ | refine stp ?_ | refine blk_o (by decide) ?_ | (apply cb;(focus (simp (disch:=(first | omega | (simp;omega))) only [go_sem,w64,best0];try exact rfl));refine cok ?_) | (refine rgT ?_;intro K hK) | (refine dA ?_;intro K hK) | (with_reducible refine hK _ ?_;clear hK K) | (refine stq ?_;simp (disch:=(first | omega | (simp;omega))) only [go_sem,w64,best0]) | refine as1 ?_ | fail)
  (refine endA (r:=.d (.bool true)) ?_)
  exact ⟨rfl,rfl⟩
 | true =>
  have hd:dlF A B C=⟨trQ A C.length,C,B,true⟩:=by unfold dlF;rw [if_pos hlp]
  have hlq:=tr_lp hlp
  have hd2:dlF (trQ A C.length) C B=⟨trQ (trQ A C.length) B.length,B,C,true⟩:=by unfold dlF;rw [if_pos hlq]
  have hla:A.length=B.length:=(matOK_out (lpV_out hlp).2.2.1).1
  have hl3:(trQ (trQ A C.length) B.length).length=A.length:=by rw [tr_len,hla]
  have hA2:(trQ A C.length).length≤1048576:=by rw [tr_len];exact hC
  have hr2:∀ i,i<(trQ A C.length).length→(mx (trQ A C.length) i).length≤1048576:=fun i hi=>by
   rw [tr_len] at hi
   rw [tr_row hi,List.length_map];exact hA
  have hmx:=implMaxA (trQ A C.length) C B hA2 hr2 hC hB
  have hmxS:=specMaxA (trQ A C.length) C B hA2 hC hB
  have hdl2:=implDualA (trQ A C.length) C B hA2 hr2 hC hB
  have hsz:=mxF_sz (trQ A C.length) C B
  have hfe:=fun h=>mxF_feas (A:=trQ A C.length) (B:=C) (C:=B) h
  have hst:=fun h1 h2=>strong_law (A:=A) (B:=B) (C:=C) hF h1 h2
  have hfm:=implFeasMaxA (trQ A C.length) C B (mxF (trQ A C.length) C B).pt hA2 hr2 hC hB hsz
  rw [hlp] at hlpS
  rw [hd2] at hdl2
  clear hd2
  obtain ⟨A3,eA3⟩:∃ A3,trQ (trQ A C.length) B.length=A3:=⟨_,rfl⟩
  rw [eA3] at hdl2 hl3
  clear eA3
  obtain ⟨A2,eA2⟩:∃ A2,trQ A C.length=A2:=⟨_,rfl⟩
  rw [eA2] at hd
  simp only [eA2] at hA2 hr2 hmx hmxS hdl2 hsz hfe hst hfm
  clear eA2 hlq
  generalize mnF A B C=M at *
  generalize mxF A2 C B=N at *
  have hci:=implCmpA N.val M.val
  have hne:(N.found != N.found)=false:=by simp
  have h3m:(A3.map ratsD).length=A.length:=by rw [List.length_map];exact hl3
  have hAm:(A.map ratsD).length=A.length:=List.length_map ..
  have heq:eqQ N.pt N.pt=true:=eqQ_self _
  have hse:=specEqA N.pt N.pt hsz hsz
  rw [heq] at hse
  have heC:eqQ C C=true:=eqQ_self _
  have hsC:=specEqA C C hC hC
  rw [heC] at hsC
  repeat' (first | refine sq ?_ | refine stp ?_ | refine blk_o (by decide) ?_ | (apply cb;(focus (simp (disch:=(first | omega | (simp;omega))) only [go_sem,w64,hd,ansP,lpD];try exact rfl));refine cok ?_) | (refine rgT ?_;intro K hK) | (refine dA ?_;intro K hK) | (with_reducible refine hK _ ?_;clear hK K) | (refine stq ?_;simp (disch:=(first | omega | (simp;omega))) only [go_sem,w64,hd,ansP,lpD]) | refine as1 ?_ | fail)
  (first | refine callA (hmn) ?_ | refine callD (hmn) ?_ | refine callE (hmn) ?_ | refine callF (hmn) ?_ ?_)
  repeat' (first | refine sq ?_ | refine stp ?_ | refine blk_o (by decide) ?_ | (apply cb;(focus (simp (disch:=(first | omega | (simp;omega))) only [go_sem,w64,ansB,ratDV,lpD];try exact rfl));refine cok ?_) | (refine rgT ?_;intro K hK) | (refine dA ?_;intro K hK) | (with_reducible refine hK _ ?_;clear hK K) | (refine stq ?_;simp (disch:=(first | omega | (simp;omega))) only [go_sem,w64,ansB,ratDV,lpD]) | refine as1 ?_ | fail)
  (first | refine callA (hlpS) ?_ | refine callD (hlpS) ?_ | refine callE (hlpS) ?_ | refine callF (hlpS) ?_ ?_)
  repeat' (first | refine sq ?_ | refine stp ?_ | refine blk_o (by decide) ?_ | (apply cb;(focus (simp (disch:=(first | omega | (simp;omega))) only [go_sem,w64,lpD];try exact rfl));refine cok ?_) | (refine rgT ?_;intro K hK) | (refine dA ?_;intro K hK) | (with_reducible refine hK _ ?_;clear hK K) | (refine stq ?_;simp (disch:=(first | omega | (simp;omega))) only [go_sem,w64,lpD]) | refine as1 ?_ | fail)
  (first | refine callA (hmx) ?_ | refine callD (hmx) ?_ | refine callE (hmx) ?_ | refine callF (hmx) ?_ ?_)
  repeat' (first | refine sq ?_ | refine stp ?_ | refine blk_o (by decide) ?_ | (apply cb;(focus (simp (disch:=(first | omega | (simp;omega))) only [go_sem,w64,ansB,ratDV,lpD];try exact rfl));refine cok ?_) | (refine rgT ?_;intro K hK) | (refine dA ?_;intro K hK) | (with_reducible refine hK _ ?_;clear hK K) | (refine stq ?_;simp (disch:=(first | omega | (simp;omega))) only [go_sem,w64,ansB,ratDV,lpD]) | refine as1 ?_ | fail)
  (first | refine callA (hmxS) ?_ | refine callD (hmxS) ?_ | refine callE (hmxS) ?_ | refine callF (hmxS) ?_ ?_)
  repeat' (first | refine sq ?_ | refine stp ?_ | refine blk_o (by decide) ?_ | (apply cb;(focus (simp (disch:=(first | omega | (simp;omega))) only [go_sem,w64,ansBS,ratDV,lpD];try exact rfl));refine cok ?_) | (with_reducible refine hK _ ?_;clear hK K) | (refine stq ?_;simp (disch:=(first | omega | (simp;omega))) only [go_sem,w64,ansBS,ratDV,lpD]) | refine as1 ?_ | fail)
  refine awp_weak (s':=mkS [(3,.ptr 3 0),(4,.ptr 4 0),(7,.ptr 7 0),(8,.d (.bool M.found)),(9,.d (whQ N.pt)),(10,.ptr 10 0),(11,.d (.bool N.found)),(12,.d (ratsD N.pt)),(13,.ptr 13 0),(14,.d (.bool N.found))] [(3,[.d (matD A),.d (ratsD B),.d (ratsD C)]),(4,[.d (matD A2),.d (ratsD C),.d (ratsD B)]),(7,[.d (.int M.val.num),.d (.int M.val.den)]),(10,[.d (.int N.val.num),.d (.int N.val.den)]),(13,[.d (.int N.val.num),.d (.int N.val.den)])]) (by exact sleA) ?_
  repeat' (first | refine sq ?_ | refine stp ?_ | refine blk_o (by decide) ?_ | (apply cb;(focus (simp (disch:=(first | omega | (simp;omega))) only [go_sem,w64,lpD];try exact rfl));refine cok ?_) | (refine rgT ?_;intro K hK) | (refine dA ?_;intro K hK) | (with_reducible refine hK _ ?_;clear hK K) | (refine stq ?_;simp (disch:=(first | omega | (simp;omega))) only [go_sem,w64,lpD]) | refine as1 ?_ | fail)
  (first | refine callA (hdl2) ?_ | refine callD (hdl2) ?_ | refine callE (hdl2) ?_ | refine callF (hdl2) ?_ ?_)
  repeat' (first | refine sq ?_ | refine stp ?_ | refine blk_o (by decide) ?_ | (apply cb;(focus (simp (disch:=(first | omega | (simp;omega))) only [go_sem,w64,ansP,lpD];try exact rfl));refine cok ?_) | (with_reducible refine hK _ ?_;clear hK K) | (refine stq ?_;simp (disch:=(first | omega | (simp;omega))) only [go_sem,w64,ansP,lpD]) | refine as1 ?_ | fail)
  refine awp_weak (s':=mkS [(3,.ptr 3 0),(4,.ptr 4 0),(7,.ptr 7 0),(8,.d (.bool M.found)),(9,.d (whQ N.pt)),(10,.ptr 10 0),(11,.d (.bool N.found)),(12,.d (ratsD N.pt)),(13,.ptr 13 0),(14,.d (.bool N.found)),(15,.ptr 15 0),(16,.d (.bool true))] [(3,[.d (matD A),.d (ratsD B),.d (ratsD C)]),(4,[.d (matD A2),.d (ratsD C),.d (ratsD B)]),(7,[.d (.int M.val.num),.d (.int M.val.den)]),(10,[.d (.int N.val.num),.d (.int N.val.den)]),(13,[.d (.int N.val.num),.d (.int N.val.den)]),(15,[.d (matD A3),.d (ratsD B),.d (ratsD C)])]) (by exact sleA) ?_
  have hn3:decide ((A3.length:Int)=(A.length:Int))=true:=by simp [hl3]
  repeat' (first | refine sq ?_ | refine stp ?_ | refine blk_o (by decide) ?_ | (apply cb;(focus (simp (disch:=(first | omega | (simp;omega))) only [go_sem,w64,hne,eqT2,eqDs,eqD,and_self,true_and,lpD,h3m,hAm];try exact rfl));refine cok ?_) | (refine rgT ?_;intro K hK) | (refine dA ?_;intro K hK) | (with_reducible refine hK _ ?_;clear hK K) | (refine stq ?_;simp (disch:=(first | omega | (simp;omega))) only [go_sem,w64,hne,eqT2,eqDs,eqD,and_self,true_and,lpD,h3m,hAm]) | refine as1 ?_ | fail)
  (first | refine callA (hse) ?_ | refine callD (hse) ?_ | refine callE (hse) ?_ | refine callF (hse) ?_ ?_)
  repeat' (first | refine sq ?_ | refine stp ?_ | refine blk_o (by decide) ?_ | (apply cb;(focus (simp (disch:=(first | omega | (simp;omega))) only [go_sem,w64,lpD,h3m,hAm];try exact rfl));refine cok ?_) | (refine rgT ?_;intro K hK) | (refine dA ?_;intro K hK) | (with_reducible refine hK _ ?_;clear hK K) | (refine stq ?_;simp (disch:=(first | omega | (simp;omega))) only [go_sem,w64,lpD,h3m,hAm]) | refine as1 ?_ | fail)
  (first | refine callA (hsC) ?_ | refine callD (hsC) ?_ | refine callE (hsC) ?_ | refine callF (hsC) ?_ ?_)
  repeat' (first | refine sq ?_ | refine stp ?_ | refine blk_o (by decide) ?_ | (apply cb;(focus (simp (disch:=(first | omega | (simp;omega))) only [go_sem,w64,lpD];try exact rfl));refine cok ?_) | (with_reducible refine hK _ ?_;clear hK K) | (refine stq ?_;simp (disch:=(first | omega | (simp;omega))) only [go_sem,w64,lpD]) | refine as1 ?_ | fail)
  refine awp_weak (s':=mkS [(4,.ptr 4 0),(7,.ptr 7 0),(8,.d (.bool M.found)),(9,.d (whQ N.pt)),(10,.ptr 10 0),(11,.d (.bool N.found))] [(4,[.d (matD A2),.d (ratsD C),.d (ratsD B)]),(7,[.d (.int M.val.num),.d (.int M.val.den)]),(10,[.d (.int N.val.num),.d (.int N.val.den)])]) (by exact sleA) ?_
  cases hN:N.found with
  | false =>
   cases hM:M.found with
   | false =>
    repeat' (first | refine sq ?_ | refine stp ?_ | refine blk_o (by decide) ?_ | (apply cb;(focus (simp (disch:=(first | omega | (simp;omega))) only [go_sem,w64,lpD];try exact rfl));refine cok ?_) | (refine rgT ?_;intro K hK) | (refine dA ?_;intro K hK) | (with_reducible refine hK _ ?_;clear hK K) | (refine stq ?_;simp (disch:=(first | omega | (simp;omega))) only [go_sem,w64,lpD]) | refine as1 ?_ | fail)
    (refine endA (r:=.d (.bool true)) ?_)
    exact ⟨rfl,rfl⟩
   | true =>
    repeat' (first | refine sq ?_ | refine stp ?_ | refine blk_o (by decide) ?_ | (apply cb;(focus (simp (disch:=(first | omega | (simp;omega))) only [go_sem,w64,lpD];try exact rfl));refine cok ?_) | (refine rgT ?_;intro K hK) | (refine dA ?_;intro K hK) | (with_reducible refine hK _ ?_;clear hK K) | (refine stq ?_;simp (disch:=(first | omega | (simp;omega))) only [go_sem,w64,lpD]) | refine as1 ?_ | fail)
    (refine endA (r:=.d (.bool true)) ?_)
    exact ⟨rfl,rfl⟩
  | true =>
   rw [hfe hN] at hfm
   cases hM:M.found with
   | false =>
    repeat' (first | refine sq ?_ | refine stp ?_ | refine blk_o (by decide) ?_ | (apply cb;(focus (simp (disch:=(first | omega | (simp;omega))) only [go_sem,w64,lpD];try exact rfl));refine cok ?_) | (refine rgT ?_;intro K hK) | (refine dA ?_;intro K hK) | (with_reducible refine hK _ ?_;clear hK K) | (refine stq ?_;simp (disch:=(first | omega | (simp;omega))) only [go_sem,w64,lpD]) | refine as1 ?_ | fail)
    (first | refine callA (hfm) ?_ | refine callD (hfm) ?_ | refine callE (hfm) ?_ | refine callF (hfm) ?_ ?_)
    repeat' (first | refine sq ?_ | refine stp ?_ | refine blk_o (by decide) ?_ | (apply cb;(focus (simp (disch:=(first | omega | (simp;omega))) only [go_sem,w64,lpD];try exact rfl));refine cok ?_) | (refine rgT ?_;intro K hK) | (refine dA ?_;intro K hK) | (with_reducible refine hK _ ?_;clear hK K) | (refine stq ?_;simp (disch:=(first | omega | (simp;omega))) only [go_sem,w64,lpD]) | refine as1 ?_ | fail)
    (refine endA (r:=.d (.bool true)) ?_)
    exact ⟨rfl,rfl⟩
   | true =>
    rw [hst hM hN] at hci
    repeat' (first | refine sq ?_ | refine stp ?_ | refine blk_o (by decide) ?_ | (apply cb;(focus (simp (disch:=(first | omega | (simp;omega))) only [go_sem,w64,lpD];try exact rfl));refine cok ?_) | (refine rgT ?_;intro K hK) | (refine dA ?_;intro K hK) | (with_reducible refine hK _ ?_;clear hK K) | (refine stq ?_;simp (disch:=(first | omega | (simp;omega))) only [go_sem,w64,lpD]) | refine as1 ?_ | fail)
    (first | refine callA (hfm) ?_ | refine callD (hfm) ?_ | refine callE (hfm) ?_ | refine callF (hfm) ?_ ?_)
    repeat' (first | refine sq ?_ | refine stp ?_ | refine blk_o (by decide) ?_ | (apply cb;(focus (simp (disch:=(first | omega | (simp;omega))) only [go_sem,w64,lpD,ratDV];try exact rfl));refine cok ?_) | (refine rgT ?_;intro K hK) | (refine dA ?_;intro K hK) | (with_reducible refine hK _ ?_;clear hK K) | (refine stq ?_;simp (disch:=(first | omega | (simp;omega))) only [go_sem,w64,lpD,ratDV]) | refine as1 ?_ | fail)
    (first | refine callA (hci) ?_ | refine callD (hci) ?_ | refine callE (hci) ?_ | refine callF (hci) ?_ ?_)
    repeat' (first | refine sq ?_ | refine stp ?_ | refine blk_o (by decide) ?_ | (apply cb;(focus (simp (disch:=(first | omega | (simp;omega))) only [go_sem,w64];try exact rfl));refine cok ?_) | (refine rgT ?_;intro K hK) | (refine dA ?_;intro K hK) | (with_reducible refine hK _ ?_;clear hK K) | (refine stq ?_;simp (disch:=(first | omega | (simp;omega))) only [go_sem,w64]) | refine as1 ?_ | fail)
    (refine endA (r:=.d (.bool true)) ?_)
    exact ⟨rfl,rfl⟩
theorem law_FnStrongDuality (a0:Option Addr) (n0:Nat) (c0:Nat) (xs0:List Int) (w:World) (hD0:BytesA false (0) w.heap.size w a0 n0 c0 xs0) :
 Calls Try.prog 3 #[.slice a0 n0 c0] w (Leaves w (.bool true)):=by
 have h:=lawStrongA xs0 (by rw [hD0.len];exact hD0.small)
 refine law_of_afn (vs:=[.slice a0 n0 c0]) h (fun G hG=>⟨_,_,rfl,cvSl.2 (bytes_cx hD0 (fun b i _ hb=>by rw [hG];exact hb)),rfl⟩)
end Go.Proofs.Ytalkhmgfnmaaaaa
