/- Lemmas for the proof of FnIteration, part 8 of 24: no condition of their own. -/
import Derived.Test.YtfobmfngbfbfdaaJ2
import Derived.Orders
import Derived.Test.YtfobmfngbfbfdaaJ4
namespace Go.Proofs.Ytfobmfngbfbfdaa
set_option linter.unusedSimpArgs false
set_option linter.unusedVariables false
open Go.RowKit
section
variable {P:Program} {ops:Array Oper} {Q:Exit→Act→World→Prop}
def notDone (ops:Array Oper) (listed:Array Bool):List Nat:=(List.range ops.size).filter fun i=>!listed.getD i true
abbrev PropV:=Value→Nat→Nat→World→Prop
def vp (l:List PropV) (i:Nat) (v:Value) (s t:Nat) (w:World):Prop:=(l.getD i fun _ _ _ _=>True) v s t w
def StableP (p:PropV):Prop:=∀ v s t w' w'',p v s t w'→Below w'.heap.size w' w''→p v s t w''
theorem stab_vp {l:List PropV} (h:∀ p∈l,StableP p):∀ i v s t w' w'',vp l i v s t w'→Below w'.heap.size w' w''→vp l i v s t w'':=by
 intro i v s t w' w'' hv hb
 unfold vp at *
 by_cases hi:i<l.length
 ·have:l.getD i (fun _ _ _ _=>True)=l[i]:=by simp [List.getD,hi]
  rw [this] at hv ⊢
  exact h _ (List.getElem_mem _) v s t w' w'' hv hb
 ·have:l.getD i (fun _ _ _ _=>True)=fun _ _ _ _=>True:=by simp [List.getD,show l.length≤i by omega]
  rw [this];trivial
def pEq (u:Value):PropV:=fun v _ _ _=>v=u
theorem pEq_st (u:Value):StableP (pEq u):=fun _ _ _ _ _ h _=>h
def pEmp (e:TypeId):PropV:=fun v _ _ w'=>∃ g,v=.slice (some ⟨g,0,none⟩) 0 0∧w'.heap[g]? = some (.cells #[] e (0,0))
theorem pEmp_st (e:TypeId):StableP (pEmp e):=fun _ _ _ _ _ ⟨g,h1,h2⟩ hb=>⟨g,h1,by rw [hb.block g (Array.getElem?_eq_some_iff.1 h2).1];exact h2⟩
theorem notDone_set {listed:Array Bool} {i:Nat} (hi:i<ops.size) (hs:listed.size=ops.size) (hf:listed.getD i true=false) :
 (notDone ops (listed.setIfInBounds i true)).length<(notDone ops listed).length:=by
 unfold notDone
 have hsub:∀ j,(!(listed.setIfInBounds i true).getD j true)=((!listed.getD j true) && decide (j ≠ i)):=by
  intro j
  by_cases e:i=j
  ·subst e;simp [show i<listed.size by omega]
  ·rw [getD_set_ne true e];simp [show j ≠ i from fun h=>e h.symm]
 have hmem:i∈(List.range ops.size).filter fun j=>!listed.getD j true:=List.mem_filter.2 ⟨List.mem_range.2 hi,by rw [hf];rfl⟩
 have h1:((List.range ops.size).filter fun j=>!(listed.setIfInBounds i true).getD j true)=(((List.range ops.size).filter fun j=>!listed.getD j true).filter fun j=>decide (j ≠ i)):=by
  rw [List.filter_filter];congr 1;funext j;rw [hsub j,Bool.and_comm]
 rw [h1]
 exact List.length_filter_lt_length_iff_exists.2 ⟨i,hmem,by simp⟩
theorem wp_region_inv {id:Nat} {a:Act} {w:World} (hm:P.follows .mixedOrders=true) (Inv:(Nat→Bool)→Act→World→Prop)
 (hback:∀ i o,ops[i]? = some o→∀ e∈o.after,Region.binds .any e=true→e.on<i)
 (h0:Inv (fun _=>false) a w.drew)
 (hs:∀ (d:Nat→Bool) a' w' i o,ops[i]? = some o→d i=false→(∀ e∈o.after,Region.binds .any e=true→d e.on=true) →
  (∀ j o',ops[j]? = some o'→d j=true→∀ e∈o'.after,Region.binds .any e=true→d e.on=true)→(∀ j,ops.size≤j→d j=false)→Inv d a' w'→wpOp P ops Q i (fun a'' w''=>Inv (fun j=>if j=i then true else d j) a'' w'') a' w')
 (he:∀ (d:Nat→Bool) a' w',(∀ i,i<ops.size→d i=true)→(∀ j,ops.size≤j→d j=false)→Inv d a' w'→Q .normal a' w') :
 (Code.region id ops true).wp P Q a w:=by
 have all:∀ (listed:Array Bool),listed.size=ops.size→Region.ready .any ops listed=[]→∀ i,i<ops.size→listed.getD i false=true:=by
  intro listed hsz hr i
  induction i using Nat.strongRecOn with
  | ind i ih =>
   intro hi
   cases hd:listed.getD i false with
   | true=>rfl
   | false =>
    exfalso
    have hmem:i∈Region.ready .any ops listed:=mem_ready.2 ⟨by
     have h1:i<listed.size:=by omega
     simp [Array.getD,h1] at hd ⊢;exact hd,ops[i],by simp [hi],fun e he' hb=>by
     have hlt:=hback i ops[i] (by simp [hi]) e he' hb
     exact ih _ hlt (by omega)⟩
    rw [hr] at hmem;cases hmem
 have key:∀ (fuel:Nat) (listed:Array Bool) (a':Act) (w':World),listed.size=ops.size→(notDone ops listed).length≤fuel →
  (∀ j o',ops[j]? = some o'→listed.getD j false=true→∀ e∈o'.after,Region.binds .any e=true→listed.getD e.on false=true)→Inv (fun i=>listed.getD i false) a' w'→wpAny P .any ops Q fuel listed a' w':=by
  intro fuel
  induction fuel with
  | zero =>
   intro listed a' w' hsz hc hcl hI
   have hnil:notDone ops listed=[]:=List.eq_nil_of_length_eq_zero (by omega)
   have hr:Region.ready .any ops listed=[]:=by
    cases hr:Region.ready .any ops listed with
    | nil=>rfl
    | cons x xs =>
     have hx:x∈Region.ready .any ops listed:=by rw [hr];simp
     obtain ⟨h1,o,ho,_⟩:=mem_ready.1 hx
     have:x∈notDone ops listed:=List.mem_filter.2 ⟨List.mem_range.2 (Array.getElem?_eq_some_iff.1 ho).1,by rw [h1];rfl⟩
     rw [hnil] at this;cases this
   exact ⟨hr,he _ _ _ (all listed hsz hr) (fun j hj=>by simp [Array.getD,show ¬ j<listed.size by omega]) hI⟩
  | succ fuel ih =>
   intro listed a' w' hsz hc hcl hI
   refine ⟨fun hr=>he _ _ _ (all listed hsz hr) (fun j hj=>by simp [Array.getD,show ¬ j<listed.size by omega]) hI,fun i hi=>?_⟩
   obtain ⟨h1,o,ho,h2⟩:=mem_ready.1 hi
   have hlt:=(Array.getElem?_eq_some_iff.1 ho).1
   have hd:listed.getD i false=false:=by
    have h3:i<listed.size:=by omega
    simp [Array.getD,h3] at h1 ⊢;exact h1
   refine wpOp_mono (fun a'' w'' hI'=>ih (listed.setIfInBounds i true) a'' w'' (by simpa using hsz) ?_ ?_ ?_) (hs _ a' w' i o ho hd h2 hcl (fun j hj=>by simp [Array.getD,show ¬ j<listed.size by omega]) hI)
   ·have:=notDone_set hlt hsz h1;omega
   ·intro j o' ho' hj e he' hb
    by_cases hji:i=j
    ·subst hji
     rw [ho] at ho';cases ho'
     by_cases hei:i=e.on
     ·rw [← hei];simp [show i<listed.size by omega]
     ·rw [getD_set_ne false hei];exact h2 e he' hb
    ·rw [getD_set_ne false hji] at hj
     by_cases hei:i=e.on
     ·rw [← hei];simp [show i<listed.size by omega]
     ·rw [getD_set_ne false hei];exact hcl j o' ho' hj e he' hb
   ·have heq:(fun j=>if j=i then true else listed.getD j false)=(fun j=>(listed.setIfInBounds i true).getD j false):=by
     symm
     funext j
     by_cases e:i=j
     ·subst e;simp [show i<listed.size by omega]
     ·rw [getD_set_ne false e];simp [show ¬ j=i from fun h=>e h.symm]
    exact heq ▸ hI'
 refine wp_region_any hm (key _ _ _ _ (by simp) ?_ ?_ ?_)
 ·unfold notDone;exact Nat.le_trans (List.length_filter_le _ _) (by simp)
 ·intro j o' ho' hj;exfalso
  by_cases hjs:j<ops.size <;> simp [Array.getD,hjs] at hj
 ·have:(fun i=>(Array.replicate ops.size false).getD i false)=fun _=>false:=by
   funext i
   by_cases h:i<ops.size <;> simp [Array.getD,h]
  rw [this];exact h0
def reachF (ops:Array Oper):Nat→Nat→Nat→Bool
 | 0,_,_=>false
 | f+1,k,j=>match ops[k]? with
  | some o=>o.after.toList.any fun e=>Region.binds .any e && (e.on == j || reachF ops f e.on j)
  | none=>false
theorem reachF_done {d:Nat→Bool} (hcl:∀ j o',ops[j]? = some o'→d j=true→∀ e∈o'.after,Region.binds .any e=true→d e.on=true) :
 ∀ (f k j:Nat),(∀ o,ops[k]? = some o→∀ e∈o.after,Region.binds .any e=true→d e.on=true)→reachF ops f k j=true→d j=true:=by
 intro f
 induction f with
 | zero=>intro k j _ h;simp [reachF] at h
 | succ f ih =>
  intro k j hk h
  unfold reachF at h
  cases ho:ops[k]? with
  | none=>rw [ho] at h;cases h
  | some o =>
   rw [ho] at h
   simp only [List.any_eq_true,Bool.and_eq_true,Bool.or_eq_true,beq_iff_eq] at h
   obtain ⟨e,he,hb,h1⟩:=h
   have hd:=hk o ho e (by simpa using he) hb
   rcases h1 with rfl | h1
   ·exact hd
   ·exact ih e.on j (fun o' ho'=>hcl e.on o' ho' hd) h1
def growB (ops:Array Oper) (n N:Nat):Bool :=
 decide (0<n) && decide (n≤ops.size) && (List.range ops.size).all (fun i=>match ops[i]? with
  | some o=>o.after.toList.all (fun e=>!Region.binds .any e || decide (e.on<i)) &&
   (if i<n then o.guard.isNone && (match o.dst with | some t=>decide (t<N) && (List.range i).all (fun j=>match ops[j]? with | some o'=>decide (o'.dst ≠ some t) | none=>true) | none=>false)
    else (List.range i).all (fun j=>reachF ops ops.size i j))
  | none=>true)
structure GrowChk (ops:Array Oper) (n N:Nat):Prop where
 pos:0<n
 le:n≤ops.size
 back:∀ i o,ops[i]? = some o→∀ e∈o.after,Region.binds .any e=true→e.on<i
 guard:∀ i o,i<n→ops[i]? = some o→o.guard=none
 dst:∀ i o,i<n→ops[i]? = some o→∃ t,o.dst=some t∧t<N
 apart:∀ i j o o' t,i<n→j<n→i ≠ j→ops[i]? = some o→ops[j]? = some o'→o.dst=some t→o'.dst ≠ some t
 tail:∀ i j,n≤i→i<ops.size→j<i→reachF ops ops.size i j=true
theorem growChk {n N:Nat} (h:growB ops n N=true):GrowChk ops n N:=by
 simp only [growB,Bool.and_eq_true,decide_eq_true_eq,List.all_eq_true,List.mem_range] at h
 obtain ⟨⟨h1,h2⟩,h3⟩:=h
 have one:∀ i j o o' t,i<n→j<i→ops[i]? = some o→ops[j]? = some o'→o.dst=some t→o'.dst ≠ some t:=by
  intro i j o o' t hi hj ho ho' hd
  have:=h3 i (by omega)
  rw [ho] at this
  simp only [Bool.and_eq_true,if_pos hi] at this
  have h4:=this.2.2
  rw [hd] at h4
  simp only [Bool.and_eq_true,List.all_eq_true,List.mem_range] at h4
  have h5:=h4.2 j hj
  rw [ho'] at h5
  simpa using h5
 refine ⟨h1,h2,fun i o ho e he hb=>?_,fun i o hi ho=>?_,fun i o hi ho=>?_,fun i j o o' t hi hj hij ho ho' hd=>?_,fun i j hi his hj=>?_⟩
 ·have:=h3 i (Array.getElem?_eq_some_iff.1 ho).1
  rw [ho] at this
  simp only [Bool.and_eq_true,List.all_eq_true] at this
  have h4:=this.1 e (by simpa using he)
  rw [hb] at h4
  simpa using h4
 ·have:=h3 i (by omega)
  rw [ho] at this
  simp only [Bool.and_eq_true,if_pos hi] at this
  have h4:=this.2.1
  cases hg:o.guard with
  | none=>rfl
  | some g=>rw [hg] at h4;cases h4
 ·have:=h3 i (by omega)
  rw [ho] at this
  simp only [Bool.and_eq_true,if_pos hi] at this
  have h4:=this.2.2
  cases hd:o.dst with
  | none=>rw [hd] at h4;cases h4
  | some t =>
   rw [hd] at h4
   simp only [Bool.and_eq_true,decide_eq_true_eq] at h4
   exact ⟨t,rfl,h4.1⟩
 ·rcases Nat.lt_or_gt_of_ne hij with h | h
  ·intro hd'
   exact one j i o' o t hj h ho' ho hd' hd
  ·exact one i j o o' t hi h ho ho' hd
 ·have:=h3 i his
  cases ho:ops[i]? with
  | none=>exact absurd (Array.getElem?_eq_none_iff.1 ho) (by omega)
  | some o =>
   rw [ho] at this
   simp only [Bool.and_eq_true,if_neg (show ¬ i<n by omega),List.all_eq_true,List.mem_range] at this
   exact this.2 j hj
def GrowFr (ops:Array Oper) (n:Nat) (a a':Act):Prop:=a'.defers=a.defers∧a'.tmps.size=a.tmps.size∧∀ t,(∀ i o,i<n→ops[i]? = some o→o.dst ≠ some t)→a'.tmps.getD t undef=a.tmps.getD t undef
theorem getD_put_other {a:Act} {t t':Nat} {v:Value} (h:t ≠ t'):(a.put (some t) v).tmps.getD t' undef=a.tmps.getD t' undef:=by
 simp [Act.put,Array.getD_eq_getD_getElem?,Array.getElem?_setIfInBounds_ne h]
theorem getD_put_same {a:Act} {t:Nat} {v:Value} (h:t<a.tmps.size):(a.put (some t) v).tmps.getD t undef=v:=by
 simp [Act.put,Array.getD_eq_getD_getElem?,h]
theorem wp_region_grow {id:Nat} {a:Act} {w:World} (n N:Nat) (hm:P.follows .mixedOrders=true) (hB:growB ops n N=true) (hN:a.tmps.size=N)
 (V:Nat→Value→Nat→Nat→World→Prop)
 (stab:∀ i v s t w' w'',V i v s t w'→Below w'.heap.size w' w''→V i v s t w'')
 (hs:∀ i o,i<n→ops[i]? = some o→∀ a' w',Below w.heap.size w w'→GrowFr ops n a a' →
  (∀ e∈o.after,Region.binds .any e=true→∀ o' d,ops[e.on]? = some o'→o'.dst=some d→∃ s t,V e.on (a'.tmps.getD d undef) s t w')→o.wp P a' w' (fun a'' w''=>∃ v s t,a''=a'.put o.dst v∧Below w'.heap.size w' w''∧w'.heap.size≤s∧t≤w''.heap.size∧V i v s t w'') Q)
 (he:∀ a' w' (s t:Nat→Nat),Below w.heap.size w w'→GrowFr ops n a a'→(∀ i o d,i<n→ops[i]? = some o→o.dst=some d→w.heap.size≤s i∧t i≤w'.heap.size∧V i (a'.tmps.getD d undef) (s i) (t i) w') →
  (∀ i j,i<n→j<n→i ≠ j→t i≤s j∨t j≤s i)→wpList P ops Q (ops.toList.drop n) a' w') :
 (Code.region id ops true).wp P Q a w:=by
 have K:=growChk hB
 let G:(Nat→Bool)→Act→World→Prop:=fun d a' w'=>∃ s t:Nat→Nat,Below w.heap.size w w'∧GrowFr ops n a a'∧(∀ i o dd,i<n→d i=true→ops[i]? = some o→o.dst=some dd→w.heap.size≤s i∧t i≤w'.heap.size∧V i (a'.tmps.getD dd undef) (s i) (t i) w') ∧
  ∀ i j,i<n→j<n→d i=true→d j=true→i ≠ j→t i≤s j∨t j≤s i
 refine wp_region_inv hm (fun d a' w'=>((∃ j,j<n∧d j=false)∧(∀ j,n≤j→d j=false)∧G d a' w')∨∃ m,(∀ j,d j=true↔j<n+m)∧wpList P ops Q (ops.toList.drop (n+m)) a' w') K.back ?_ ?_ ?_
 ·exact .inl ⟨⟨0,K.pos,rfl⟩,fun _ _=>rfl,fun _=>0,fun _=>0,⟨rfl,rfl,rfl,Nat.le_refl _,fun _ _=>rfl⟩,⟨rfl,rfl,fun _ _=>rfl⟩,⟨fun i o t _ h=>(by cases h),fun i j _ _ h=>(by cases h)⟩⟩
 ·intro d a' w' i o ho hd hdeps hcl hbig hI
  have hi:=(Array.getElem?_eq_some_iff.1 ho).1
  unfold wpOp
  rw [ho]
  dsimp only
  by_cases hin:i<n
  ·rcases hI with ⟨_,htl,s,t,hC',hF,hV,hD⟩ | ⟨m,hm',_⟩
   ·obtain ⟨ti,hti,htN⟩:=K.dst i o hin ho
    rw [if_pos (by simp [Region.wanted,K.guard i o hin ho])]
    refine .inl (Oper.wp_mono ?_ (hs i o hin ho a' w' hC' hF (fun e he' hb o' dd ho' ht=>⟨_,_,(hV e.on o' dd (Nat.lt_trans (K.back i o ho e he' hb) hin) (hdeps e he' hb) ho' ht).2.2⟩)))
    rintro a'' w'' ⟨v,s0,t0,rfl,hR,hs0,ht0,hVi⟩
    rw [hti]
    have hF':GrowFr ops n a (a'.put (some ti) v):=by
     refine ⟨hF.1,by simp [Act.put,hF.2.1],fun t ht=>?_⟩
     rw [getD_put_other (by rintro rfl;exact ht i o hin ho hti)]
     exact hF.2.2 t ht
    have hC'':Below w.heap.size w w'':=hC'.trans (hR.mono hC'.size)
    have hV':∀ k o' dd,k<n→(if k=i then true else d k)=true→ops[k]? = some o'→o'.dst=some dd→w.heap.size≤(if k=i then s0 else s k)∧(if k=i then t0 else t k)≤w''.heap.size∧V k ((a'.put (some ti) v).tmps.getD dd undef) (if k=i then s0 else s k) (if k=i then t0 else t k) w'':=by
     intro k o' dd hk hdk ho' ht
     by_cases e:k=i
     ·subst e
      rw [ho] at ho';cases ho'
      rw [hti] at ht;cases ht
      simp only [if_true]
      rw [getD_put_same (by rw [hF.2.1,hN];exact htN)];exact ⟨Nat.le_trans hC'.size hs0,ht0,hVi⟩
     ·rw [if_neg e] at hdk
      simp only [if_neg e]
      rw [getD_put_other (by rintro rfl;exact K.apart i k o o' ti hin hk (fun h=>e h.symm) ho ho' hti ht)]
      obtain ⟨q1,q2,q3⟩:=hV k o' dd hk hdk ho' ht
      exact ⟨q1,Nat.le_trans q2 hR.size,stab _ _ _ _ _ _ q3 hR⟩
    have hD':∀ k l,k<n→l<n→(if k=i then true else d k)=true→(if l=i then true else d l)=true→k ≠ l→(if k=i then t0 else t k)≤(if l=i then s0 else s l)∨(if l=i then t0 else t l)≤(if k=i then s0 else s k):=by
     intro k l hk hl hdk hdl hkl
     by_cases e:k=i
     ·have e':l ≠ i:=fun h=>hkl (e.trans h.symm)
      simp only [if_pos e,if_neg e'] at hdl ⊢
      have hsz:l<ops.size:=Nat.lt_of_lt_of_le hl K.le
      obtain ⟨dd,hdd,_⟩:=K.dst l ops[l] hl (by simp [hsz])
      have:=(hV l ops[l] dd hl hdl (by simp [hsz]) hdd).2.1
      omega
     ·by_cases e':l=i
      ·simp only [if_pos e',if_neg e] at hdk ⊢
       have hsz:k<ops.size:=Nat.lt_of_lt_of_le hk K.le
       obtain ⟨dd,hdd,_⟩:=K.dst k ops[k] hk (by simp [hsz])
       have:=(hV k ops[k] dd hk hdk (by simp [hsz]) hdd).2.1
       omega
      ·simp only [if_neg e,if_neg e'] at hdk hdl ⊢
       exact hD k l hk hl hdk hdl hkl
    by_cases hall:∃ j,j<n∧(if j=i then true else d j)=false
    ·exact .inl ⟨hall,fun j hj=>by rw [if_neg (by omega)];exact htl j hj,_,_,hC'',hF',hV',hD'⟩
    ·have hyes:∀ k,k<n→(if k=i then true else d k)=true:=fun k hk=>by
      cases hdk:(if k=i then true else d k) with
      | true=>rfl
      | false=>exact absurd ⟨k,hk,hdk⟩ hall
     refine .inr ⟨0,fun j=>⟨fun hj=>?_,fun hj=>hyes j (by omega)⟩,he _ _ _ _ hC'' hF' (fun k o' dd hk ho' ht=>hV' k o' dd hk (hyes k hk) ho' ht) (fun k l hk hl hkl=>hD' k l hk hl (hyes k hk) (hyes l hl) hkl)⟩
     by_cases hjn:j<n
     ·omega
     ·rw [if_neg (by omega),htl j (by omega)] at hj;cases hj
   ·have:=(hm' i).2 (by omega)
    rw [hd] at this;cases this
  ·have hdone:∀ j,j<i→d j=true:=fun j hj=>reachF_done hcl _ i j (fun o' ho'=>by rw [ho] at ho';cases ho';exact hdeps) (K.tail i j (by omega) hi hj)
   rcases hI with ⟨⟨j,hj,hdj⟩,_⟩ | ⟨m,hm',hw⟩
   ·rw [hdone j (by omega)] at hdj;cases hdj
   ·have him:i=n+m:=by
     have h1:¬ i<n+m:=fun h=>by rw [(hm' i).2 h] at hd;cases hd
     have h2:¬ n+m<i:=fun h=>by have:=(hm' (n+m)).1 (hdone _ h);omega
     omega
    subst him
    have hdrop:ops.toList.drop (n+m)=o :: ops.toList.drop (n+m+1):=by
     rw [List.drop_eq_getElem_cons (by simpa using hi)]
     congr 1
     have:=(Array.getElem?_eq_some_iff.1 ho).2
     simpa using this
    rw [hdrop] at hw
    unfold wpList at hw
    have hnext:∀ a'' w'',wpList P ops Q (ops.toList.drop (n+m+1)) a'' w''→((∃ j,j<n∧(if j=n+m then true else d j)=false)∧(∀ j,n≤j→(if j=n+m then true else d j)=false)∧G (fun j=>if j=n+m then true else d j) a'' w'')∨∃ m',(∀ j,(if j=n+m then true else d j)=true↔j<n+m')∧wpList P ops Q (ops.toList.drop (n+m')) a'' w'':=by
     intro a'' w'' h
     refine .inr ⟨m+1,fun j=>?_,by rw [← Nat.add_assoc];exact h⟩
     by_cases e:j=n+m
     ·rw [if_pos e];simp;omega
     ·rw [if_neg e,hm' j];omega
    by_cases hwt:Region.wanted o (yielded ops a'.tmps)=true
    ·rw [if_pos hwt] at hw ⊢
     exact hw.imp (Oper.wp_mono hnext) (fun h=>h)
    ·rw [if_neg hwt] at hw ⊢
     exact hnext _ _ hw
 ·intro d a' w' hall hbig hI
  rcases hI with ⟨⟨j,hj,hdj⟩,_⟩ | ⟨m,hm',hw⟩
  ·rw [hall j (Nat.lt_of_lt_of_le hj K.le)] at hdj;cases hdj
  ·have h1:ops.size≤n+m:=by
    by_cases h:ops.size≤n+m
    ·exact h
    ·have:=(hm' (n+m)).1 (hall _ (by omega));omega
   rw [List.drop_eq_nil_of_le (by simpa using h1)] at hw
   exact hw
def valAt (ops:Array Oper) (a:Act) (j:Nat):Value:=match ops[j]? with
 | some o=>(match o.dst with | some t=>a.tmps.getD t undef | none=>undef)
 | none=>undef
theorem valAt_of {a:Act} {j t:Nat} {o:Oper} (h:ops[j]? = some o) (ht:o.dst=some t):valAt ops a j=a.tmps.getD t undef:=by simp [valAt,h,ht]
theorem wp_region_growL {id:Nat} {a:Act} {w:World} (n N:Nat) (hm:P.follows .mixedOrders=true) (hB:growB ops n N=true) (hN:a.tmps.size=N)
 (V:Nat→Value→Nat→Nat→World→Prop) (L:Nat→(Nat→Value)→Prop)
 (hL:∀ i o f f',ops[i]? = some o→L i f→f' i=f i→(∀ e∈o.after,Region.binds .any e=true→f' e.on=f e.on)→L i f')
 (stab:∀ i v s t w' w'',V i v s t w'→Below w'.heap.size w' w''→V i v s t w'')
 (hs:∀ i o,i<n→ops[i]? = some o→∀ a' w',Below w.heap.size w w'→GrowFr ops n a a' →
  (∀ e∈o.after,Region.binds .any e=true→∀ o' d,ops[e.on]? = some o'→o'.dst=some d→∃ s t,V e.on (a'.tmps.getD d undef) s t w')→o.wp P a' w' (fun a'' w''=>∃ v s t,a''=a'.put o.dst v∧Below w'.heap.size w' w''∧w'.heap.size≤s∧t≤w''.heap.size∧V i v s t w''∧∀ f:Nat→Value,f i=v→(∀ e∈o.after,Region.binds .any e=true→f e.on=valAt ops a' e.on)→L i f) Q)
 (he:∀ a' w' (s t:Nat→Nat),Below w.heap.size w w'→GrowFr ops n a a'→(∀ i o d,i<n→ops[i]? = some o→o.dst=some d→w.heap.size≤s i∧t i≤w'.heap.size∧V i (a'.tmps.getD d undef) (s i) (t i) w') →
  (∀ i j,i<n→j<n→i ≠ j→t i≤s j∨t j≤s i)→(∀ i,i<n→L i (valAt ops a'))→wpList P ops Q (ops.toList.drop n) a' w') :
 (Code.region id ops true).wp P Q a w:=by
 have K:=growChk hB
 let G:(Nat→Bool)→Act→World→Prop:=fun d a' w'=>∃ s t:Nat→Nat,Below w.heap.size w w'∧GrowFr ops n a a'∧(∀ i o dd,i<n→d i=true→ops[i]? = some o→o.dst=some dd→w.heap.size≤s i∧t i≤w'.heap.size∧V i (a'.tmps.getD dd undef) (s i) (t i) w') ∧
  (∀ i j,i<n→j<n→d i=true→d j=true→i ≠ j→t i≤s j∨t j≤s i)∧∀ i,i<n→d i=true→L i (valAt ops a')
 refine wp_region_inv hm (fun d a' w'=>((∃ j,j<n∧d j=false)∧(∀ j,n≤j→d j=false)∧G d a' w')∨∃ m,(∀ j,d j=true↔j<n+m)∧wpList P ops Q (ops.toList.drop (n+m)) a' w') K.back ?_ ?_ ?_
 ·exact .inl ⟨⟨0,K.pos,rfl⟩,fun _ _=>rfl,fun _=>0,fun _=>0,⟨rfl,rfl,rfl,Nat.le_refl _,fun _ _=>rfl⟩,⟨rfl,rfl,fun _ _=>rfl⟩,⟨fun i o t _ h=>(by cases h),fun i j _ _ h=>(by cases h),fun i _ h=>(by cases h)⟩⟩
 ·intro d a' w' i o ho hd hdeps hcl hbig hI
  have hi:=(Array.getElem?_eq_some_iff.1 ho).1
  unfold wpOp
  rw [ho]
  dsimp only
  by_cases hin:i<n
  ·rcases hI with ⟨_,htl,s,t,hC',hF,hV,hD,hLL⟩ | ⟨m,hm',_⟩
   ·obtain ⟨ti,hti,htN⟩:=K.dst i o hin ho
    rw [if_pos (by simp [Region.wanted,K.guard i o hin ho])]
    refine .inl (Oper.wp_mono ?_ (hs i o hin ho a' w' hC' hF (fun e he' hb o' dd ho' ht=>⟨_,_,(hV e.on o' dd (Nat.lt_trans (K.back i o ho e he' hb) hin) (hdeps e he' hb) ho' ht).2.2⟩)))
    rintro a'' w'' ⟨v,s0,t0,rfl,hR,hs0,ht0,hVi,hLi⟩
    rw [hti]
    have hF':GrowFr ops n a (a'.put (some ti) v):=by
     refine ⟨hF.1,by simp [Act.put,hF.2.1],fun t ht=>?_⟩
     rw [getD_put_other (by rintro rfl;exact ht i o hin ho hti)]
     exact hF.2.2 t ht
    have hC'':Below w.heap.size w w'':=hC'.trans (hR.mono hC'.size)
    have hV':∀ k o' dd,k<n→(if k=i then true else d k)=true→ops[k]? = some o'→o'.dst=some dd→w.heap.size≤(if k=i then s0 else s k)∧(if k=i then t0 else t k)≤w''.heap.size∧V k ((a'.put (some ti) v).tmps.getD dd undef) (if k=i then s0 else s k) (if k=i then t0 else t k) w'':=by
     intro k o' dd hk hdk ho' ht
     by_cases e:k=i
     ·subst e
      rw [ho] at ho';cases ho'
      rw [hti] at ht;cases ht
      simp only [if_true]
      rw [getD_put_same (by rw [hF.2.1,hN];exact htN)];exact ⟨Nat.le_trans hC'.size hs0,ht0,hVi⟩
     ·rw [if_neg e] at hdk
      simp only [if_neg e]
      rw [getD_put_other (by rintro rfl;exact K.apart i k o o' ti hin hk (fun h=>e h.symm) ho ho' hti ht)]
      obtain ⟨q1,q2,q3⟩:=hV k o' dd hk hdk ho' ht
      exact ⟨q1,Nat.le_trans q2 hR.size,stab _ _ _ _ _ _ q3 hR⟩
    have hD':∀ k l,k<n→l<n→(if k=i then true else d k)=true→(if l=i then true else d l)=true→k ≠ l→(if k=i then t0 else t k)≤(if l=i then s0 else s l)∨(if l=i then t0 else t l)≤(if k=i then s0 else s k):=by
     intro k l hk hl hdk hdl hkl
     by_cases e:k=i
     ·have e':l ≠ i:=fun h=>hkl (e.trans h.symm)
      simp only [if_pos e,if_neg e'] at hdl ⊢
      have hsz:l<ops.size:=Nat.lt_of_lt_of_le hl K.le
      obtain ⟨dd,hdd,_⟩:=K.dst l ops[l] hl (by simp [hsz])
      have:=(hV l ops[l] dd hl hdl (by simp [hsz]) hdd).2.1
      omega
     ·by_cases e':l=i
      ·simp only [if_pos e',if_neg e] at hdk ⊢
       have hsz:k<ops.size:=Nat.lt_of_lt_of_le hk K.le
       obtain ⟨dd,hdd,_⟩:=K.dst k ops[k] hk (by simp [hsz])
       have:=(hV k ops[k] dd hk hdk (by simp [hsz]) hdd).2.1
       omega
      ·simp only [if_neg e,if_neg e'] at hdk hdl ⊢
       exact hD k l hk hl hdk hdl hkl
    have hvo:∀ k,k<n→k ≠ i→valAt ops (a'.put (some ti) v) k=valAt ops a' k:=by
     intro k hk e
     have hsz:k<ops.size:=Nat.lt_of_lt_of_le hk K.le
     obtain ⟨dd,hdd,_⟩:=K.dst k ops[k] hk (by simp [hsz])
     rw [valAt_of (o:=ops[k]) (by simp [hsz]) hdd,valAt_of (o:=ops[k]) (by simp [hsz]) hdd,getD_put_other (by rintro rfl;exact K.apart i k o ops[k] ti hin hk (fun h=>e h.symm) ho (by simp [hsz]) hti hdd)]
    have hvi:valAt ops (a'.put (some ti) v) i=v:=by rw [valAt_of ho hti,getD_put_same (by rw [hF.2.1,hN];exact htN)]
    have hL':∀ k,k<n→(if k=i then true else d k)=true→L k (valAt ops (a'.put (some ti) v)):=by
     intro k hk hdk
     by_cases e:k=i
     ·subst e
      exact hLi _ hvi (fun e he' hb=>hvo _ (Nat.lt_trans (K.back k o ho e he' hb) hk) (fun h=>by have:=K.back k o ho e he' hb;omega))
     ·rw [if_neg e] at hdk
      have hsz:k<ops.size:=Nat.lt_of_lt_of_le hk K.le
      refine hL k ops[k] _ _ (by simp [hsz]) (hLL k hk hdk) (hvo k hk e) (fun e' he' hb=>hvo _ (Nat.lt_trans (K.back k ops[k] (by simp [hsz]) e' he' hb) hk) (fun h=>?_))
      have:=hcl k ops[k] (by simp [hsz]) hdk e' he' hb
      rw [h,hd] at this;cases this
    by_cases hall:∃ j,j<n∧(if j=i then true else d j)=false
    ·exact .inl ⟨hall,fun j hj=>by rw [if_neg (by omega)];exact htl j hj,_,_,hC'',hF',hV',hD',hL'⟩
    ·have hyes:∀ k,k<n→(if k=i then true else d k)=true:=fun k hk=>by
      cases hdk:(if k=i then true else d k) with
      | true=>rfl
      | false=>exact absurd ⟨k,hk,hdk⟩ hall
     refine .inr ⟨0,fun j=>⟨fun hj=>?_,fun hj=>hyes j (by omega)⟩,he _ _ _ _ hC'' hF' (fun k o' dd hk ho' ht=>hV' k o' dd hk (hyes k hk) ho' ht) (fun k l hk hl hkl=>hD' k l hk hl (hyes k hk) (hyes l hl) hkl) (fun k hk=>hL' k hk (hyes k hk))⟩
     by_cases hjn:j<n
     ·omega
     ·rw [if_neg (by omega),htl j (by omega)] at hj;cases hj
   ·have:=(hm' i).2 (by omega)
    rw [hd] at this;cases this
  ·have hdone:∀ j,j<i→d j=true:=fun j hj=>reachF_done hcl _ i j (fun o' ho'=>by rw [ho] at ho';cases ho';exact hdeps) (K.tail i j (by omega) hi hj)
   rcases hI with ⟨⟨j,hj,hdj⟩,_⟩ | ⟨m,hm',hw⟩
   ·rw [hdone j (by omega)] at hdj;cases hdj
   ·have him:i=n+m:=by
     have h1:¬ i<n+m:=fun h=>by rw [(hm' i).2 h] at hd;cases hd
     have h2:¬ n+m<i:=fun h=>by have:=(hm' (n+m)).1 (hdone _ h);omega
     omega
    subst him
    have hdrop:ops.toList.drop (n+m)=o :: ops.toList.drop (n+m+1):=by
     rw [List.drop_eq_getElem_cons (by simpa using hi)]
     congr 1
     have:=(Array.getElem?_eq_some_iff.1 ho).2
     simpa using this
    rw [hdrop] at hw
    unfold wpList at hw
    have hnext:∀ a'' w'',wpList P ops Q (ops.toList.drop (n+m+1)) a'' w''→((∃ j,j<n∧(if j=n+m then true else d j)=false)∧(∀ j,n≤j→(if j=n+m then true else d j)=false)∧G (fun j=>if j=n+m then true else d j) a'' w'')∨∃ m',(∀ j,(if j=n+m then true else d j)=true↔j<n+m')∧wpList P ops Q (ops.toList.drop (n+m')) a'' w'':=by
     intro a'' w'' h
     refine .inr ⟨m+1,fun j=>?_,by rw [← Nat.add_assoc];exact h⟩
     by_cases e:j=n+m
     ·rw [if_pos e];simp;omega
     ·rw [if_neg e,hm' j];omega
    by_cases hwt:Region.wanted o (yielded ops a'.tmps)=true
    ·rw [if_pos hwt] at hw ⊢
     exact hw.imp (Oper.wp_mono hnext) (fun h=>h)
    ·rw [if_neg hwt] at hw ⊢
     exact hnext _ _ hw
 ·intro d a' w' hall hbig hI
  rcases hI with ⟨⟨j,hj,hdj⟩,_⟩ | ⟨m,hm',hw⟩
  ·rw [hall j (Nat.lt_of_lt_of_le hj K.le)] at hdj;cases hdj
  ·have h1:ops.size≤n+m:=by
    by_cases h:ops.size≤n+m
    ·exact h
    ·have:=(hm' (n+m)).1 (hall _ (by omega));omega
   rw [List.drop_eq_nil_of_le (by simpa using h1)] at hw
   exact hw
theorem evTmp {a':Act} {t:Nat} {v:Value} (h:a'.eval (.tmp t)=v):a'.tmps[t]?.getD undef=v:=by rw [← h];simp [Act.eval,Array.getD_eq_getD_getElem?]
def notDstB (ops:Array Oper) (n t:Nat):Bool:=(List.range n).all fun i=>match ops[i]? with | some o=>decide (o.dst ≠ some t) | none=>true
theorem GrowFr.at {n:Nat} {a a':Act} (h:GrowFr ops n a a') (t:Nat) (hb:notDstB ops n t=true):a'.tmps.getD t undef=a.tmps.getD t undef:=by
 refine h.2.2 t fun i o hi ho=>?_
 simp only [notDstB,List.all_eq_true,List.mem_range] at hb
 have:=hb i hi
 rw [ho] at this
 simpa using this
theorem GrowFr.ev {n:Nat} {a a':Act} (h:GrowFr ops n a a') (t:Nat) (hb:notDstB ops n t=true) {v:Value} (hv:a.tmps.getD t undef=v):a'.eval (.tmp t)=v:=by
 rw [← hv];exact h.at t hb
theorem stepG {o:Oper} {a':Act} {w' w'':World} {v:Value} {s t i:Nat} {V:Nat→Value→Nat→Nat→World→Prop} (hr:(execOp a'.eval o).run P w'=.ok (.value v) w'') (hb:Below w'.heap.size w' w'') (h1:w'.heap.size≤s) (h2:t≤w''.heap.size) (hv:V i v s t w'') :
 o.wp P a' w' (fun a'' w''=>∃ v s t,a''=a'.put o.dst v∧Below w'.heap.size w' w''∧w'.heap.size≤s∧t≤w''.heap.size∧V i v s t w'') Q:=by
 unfold Oper.wp
 rw [hr]
 exact ⟨v,s,t,rfl,hb,h1,h2,hv⟩
theorem stepGL {o:Oper} {a':Act} {w' w'':World} {v:Value} {s t i:Nat} {V:Nat→Value→Nat→Nat→World→Prop} {H:Value→Prop} (hr:(execOp a'.eval o).run P w'=.ok (.value v) w'') (hb:Below w'.heap.size w' w'') (h1:w'.heap.size≤s) (h2:t≤w''.heap.size) (hv:V i v s t w'') (hH:H v) :
 o.wp P a' w' (fun a'' w''=>∃ v s t,a''=a'.put o.dst v∧Below w'.heap.size w' w''∧w'.heap.size≤s∧t≤w''.heap.size∧V i v s t w''∧H v) Q:=by
 unfold Oper.wp
 rw [hr]
 exact ⟨v,s,t,rfl,hb,h1,h2,hv,hH⟩
theorem stepGLC {o:Oper} {a':Act} {w':World} {i:Nat} {V:Nat→Value→Nat→Nat→World→Prop} {H:Value→Prop} {f:FuncId} {args:Array Value} (hr:(execOp a'.eval o).run P w'=.ok (.enter f args) w')
 (hc:Calls P f args w' fun e w''=>∃ v s t,e=.returned v∧Below w'.heap.size w' w''∧w'.heap.size≤s∧t≤w''.heap.size∧V i v s t w''∧H v) :
 o.wp P a' w' (fun a'' w''=>∃ v s t,a''=a'.put o.dst v∧Below w'.heap.size w' w''∧w'.heap.size≤s∧t≤w''.heap.size∧V i v s t w''∧H v) Q:=by
 unfold Oper.wp
 rw [hr]
 refine hc.mono ?_
 rintro e w'' ⟨v,s,t,rfl,h⟩
 exact ⟨v,s,t,rfl,h⟩
end
end Go.Proofs.Ytfobmfngbfbfdaa
namespace Go.Proofs.Ytfobmfngbfbfdaa
set_option linter.unusedSimpArgs false
set_option linter.unusedVariables false
open Go.RowKit
def pDat {α:Type} (Q:RowP α) (n:Nat) (x:α):PropV:=fun v s t w'=>t≤w'.heap.size∧HeadI w' s t∧∃ a' c',v=.slice a' n c'∧Q s t w' a' n c' x
theorem pDat_st {α:Type} {Q:RowP α} (ok:RowPOK Q) (n:Nat) (x:α):StableP (pDat Q n x) :=
 fun _ _ _ _ _ ⟨h0,hd,a',c',h1,h2⟩ hb=>⟨Nat.le_trans h0 hb.size,hd.keep (Keeps.of_below hb h0) (Nat.le_refl _) (Nat.le_refl _),a',c',h1,ok.keep h2 (Keeps.of_below hb h0)⟩
theorem run_append_empty {t e k bytes:Nat} (ht:ElemF t e k bytes) {lo hi:Nat} {w:World} (ty:TypeId) (g:Nat) (hg:w.heap[g]? = some (.cells #[] e (0,0)))
 (ao:Option Addr) (m c:Nat) (us:List Value) (hI:FlatA k lo hi w ao m c us) (hb:m≤16777216) :
 ∃ a' c' w',(Builtin.append_ #[t,t] ty #[.slice (some ⟨g,0,none⟩) 0 0,.slice ao m c]).run Try.prog w=.ok (.slice a' m c') w'∧Below w.heap.size w w'∧(0<m→OwnF e k w.heap.size w' a' m c' us)∧m≤c'∧c'≤maxLen∧(a'=none→c'=0):=by
 obtain ⟨i0,z,hi0,hz0,hz1,hz2,hz3⟩:=ht.info
 have hgl:g<w.heap.size:=(Array.getElem?_eq_some_iff.1 hg).1
 have hown:OwnF e k g w (some ⟨g,0,none⟩) 0 0 []:=ownF_empty e k w g g (Nat.le_refl _) hg
 by_cases hm:m=0
 ·subst hm
  have hus:us=[]:=List.eq_nil_of_length_eq_zero (by have:=hI.len;simpa using this)
  subst hus
  cases ao with
  | none =>
   have hc0:=hI.2.2.2.2.2 rfl
   subst hc0
   exact ⟨_,_,w,run_append_owned_none (P:=Try.prog) (w:=w) g t ty e i0 k ht.under hi0 _ 0 _ hown.1,Below.refl _ _,fun h=>by omega,Nat.le_refl _,by simp [maxLen],fun h=>(by cases h)⟩
  | some ad =>
   have hr:=run_append_room (P:=Try.prog) w t ty e i0 ht.under hi0 g 0 0 #[] hg ad 0 c [] (by simp) (fun j u hj=>by simp at hj) (fun u hu=>(by cases hu)) (by omega) (by simp)
   refine ⟨_,_,_,hr,⟨rfl,rfl,rfl,by simp,fun j hj=>?_⟩,fun h=>by omega,Nat.le_refl _,by simp [maxLen],fun h=>(by cases h)⟩
   by_cases e':j=g
   ·subst e'
    rw [setRow_heap w j #[] _ e _ hg,hg];simp
   ·exact setRow_other w g j _ e'
 ·cases ao with
  | none=>exact absurd (by have h1:=hI.2.2.2.2.2 rfl;have h2:=hI.2.1;omega) hm
  | some ad =>
   obtain ⟨a1,c1,w1,hr1,ho1,_⟩:=run_append_flat ht ty g _ 0 0 [] hown (some ad) m c us hI (by omega) (by omega)
   have hr2:=run_append_grow (P:=Try.prog) w t ty e i0 z ht.under hi0 hz0 ⟨g,0,none⟩ 0 0 [] (by simp) (fun j v hj=>by simp at hj) ad m c us (by rw [hz1];exact hI.len) (fun j u hj=>by
    obtain ⟨b,off,hab,_,_,hcell⟩:=hI.open (by omega)
    obtain rfl:ad=⟨b,off,none⟩:=by simpa using hab
    rw [Addr.add_lit];exact hcell j u hj) (by omega) (by omega) (by
     rw [Nat.zero_add,nextslicecap_zero (by omega)]
     have h1:=ht.small
     have h2:m*i0.bytes≤16777216*4096:=by rw [hz2];exact Nat.mul_le_mul hb h1
     omega)
   rw [hr1] at hr2
   simp only [Result.ok.injEq,Value.slice.injEq] at hr2
   obtain ⟨⟨ha,_,hc⟩,hw⟩:=hr2
   rw [List.nil_append,Nat.zero_add] at ho1
   rw [Nat.zero_add] at hr1
   refine ⟨a1,c1,w1,hr1,?_,fun _=>?_,ho1.flat.2.1,ho1.flat.2.2.1,ho1.flat.2.2.2.2.2⟩
   ·rw [hw]
    exact (⟨rfl,rfl,rfl,Nat.le_refl _,fun _ _=>rfl⟩:Below w.heap.size w w.drew).alloc (Nat.le_refl _) _
   ·refine ⟨⟨ho1.1.1,?_⟩,ho1.2⟩
    rcases ho1.1.2 with ⟨h,_⟩ | ⟨g',cap,cur,hv,_,rest⟩
    ·simp only [Value.slice.injEq] at h;omega
    ·have hv':=hv
     simp only [Value.slice.injEq] at hv
     rw [ha] at hv
     simp only [Option.some.injEq,Addr.mk.injEq,and_true] at hv
     exact .inr ⟨g',cap,cur,hv',by omega,rest⟩
end Go.Proofs.Ytfobmfngbfbfdaa
namespace Go.Proofs.Ytfobmfngbfbfdaa
set_option linter.unusedSimpArgs false
set_option linter.unusedVariables false
open Go.RowKit
theorem elemInt1:ElemF 27 3 1 8:=⟨Try.underlying27,by obtain ⟨i0,h1,h2,h3,h4⟩:=info_parts infoInt;exact ⟨i0,_,h1,h2,h3,h4,rfl⟩,by omega,by omega⟩
theorem elemRowI:Elem 24 27 24:=⟨Try.underlying24,by obtain ⟨i0,h1,h2,h3,h4⟩:=info_parts infoRow;exact ⟨i0,_,h1,h2,h3,h4,rfl⟩,by omega⟩
theorem intsFlat {fz:Bool} {lo hi:Nat} {w:World} {a:Option Addr} {n c:Nat} {xs:List Int} (h:IntsA fz lo hi w a n c xs):FlatA 1 lo hi w a n c (xs.map (Value.int .i64)):=by
 refine ⟨by simp [h.len],h.2.1,h.2.2.1,ints_oneCell .i64 xs,fun hn=>?_,h.2.2.2.2.2⟩
 obtain ⟨b,off,ha,hl,hb,hc,_⟩:=h.open hn
 refine ⟨b,off,ha,hl,hb,fun i u hu=>?_⟩
 have hi:i<xs.length:=by have:=(List.getElem?_eq_some_iff.1 hu).1;simpa using this
 rw [List.getElem?_map,List.getElem?_eq_getElem hi] at hu
 simp at hu;subst hu
 rw [hc i (by rw [← h.len];exact hi),ix_lt hi]
theorem intsOf {base:Nat} {w:World} {a:Option Addr} {n c:Nat} {xs:List Int} (h:OwnF 3 1 base w a n c (xs.map (Value.int .i64))) (h64:∀ x∈xs,I64 x):Own base w a n c xs:=⟨h.1,h64⟩
def RoomA (s t:Nat) (w:World) (a:Option Addr) (n c:Nat):Prop:=n<c→∃ b off,a=some ⟨b,off,none⟩∧s≤b∧b<t∧(w.cell? ⟨b,off+n,none⟩).isSome=true∧w.frozen? ⟨b,off+n,none⟩=false
theorem RoomA.keep {s t:Nat} {w w':World} {a:Option Addr} {n c:Nat} (h:RoomA s t w a n c) (hk:Keeps s t w w'):RoomA s t w' a n c:=fun hn=>by
 obtain ⟨b,off,h1,h2,h3,h4,h5⟩:=h hn
 exact ⟨b,off,h1,h2,h3,by rw [World.cell?_of_block (w:=w) (hk b h2 h3)];exact h4,by rw [World.frozen?_of_block (w:=w) (hk b h2 h3)];exact h5⟩
theorem RoomA.wide {s t s' t':Nat} {w:World} {a:Option Addr} {n c:Nat} (h:RoomA s t w a n c) (h1:s'≤s) (h2:t≤t'):RoomA s' t' w a n c:=fun hn=>by
 obtain ⟨b,off,g1,g2,g3,g⟩:=h hn
 exact ⟨b,off,g1,by omega,by omega,g⟩
def intsX:RowP (List Int):=fun lo hi w a n c xs=>IntsA true lo hi w a n c xs∧RoomA lo hi w a n c
theorem intsXOK:RowPOK intsX:=⟨fun h hk=>⟨IntsA.keep h.1 hk,h.2.keep hk⟩,fun h h1 h2=>⟨IntsA.wide h.1 h1 h2,h.2.wide h1 h2⟩⟩
theorem Own.headX {base:Nat} {w:World} {a:Option Addr} {n c:Nat} {xs:List Int} (h:Own base w a n c xs) (hb:base≤w.heap.size) (hn:0<n):∃ s t,base≤s∧t≤w.heap.size∧intsX s t w a n c xs∧HeadI w s t:=by
 obtain ⟨s,t,g1,g2,g3,g4⟩:=Own.head h hb
 refine ⟨s,t,g1,g2,⟨g3,fun hnc=>?_⟩,g4⟩
 rcases h.1.2 with ⟨h2,h3⟩ | ⟨g,cap,cur,hv,hbg,hg,h4,h5,h6,h7⟩
 ·simp only [Value.slice.injEq] at h2;omega
 ·simp only [Value.slice.injEq] at hv
  obtain ⟨rfl,_,rfl⟩:=hv
  obtain ⟨b,off,ha,k1,k2,_⟩:=g3.open hn
  simp only [Option.some.injEq,Addr.mk.injEq,and_true] at ha
  obtain ⟨rfl,rfl⟩:=ha
  refine ⟨g,0,rfl,k1,k2,?_,frozen_of_row w g (0+n) cur _ hg⟩
  have hlt:n<cur.size:=by omega
  simp [World.cell?,hg,hlt]
theorem run_append_ints {lo hi:Nat} {fz:Bool} {w:World} (ty:TypeId) (g:Nat) (hg:w.heap[g]? = some (.cells #[] 3 (0,0)))
 (ao:Option Addr) (m c:Nat) (xs:List Int) (hI:IntsA fz lo hi w ao m c xs) (hb:m≤16777216) :
 ∃ a' c' w' s t,(Builtin.append_ #[27,27] ty #[.slice (some ⟨g,0,none⟩) 0 0,.slice ao m c]).run Try.prog w=.ok (.slice a' m c') w'∧Below w.heap.size w w'∧w.heap.size≤s∧t≤w'.heap.size∧intsX s t w' a' m c' xs∧HeadI w' s t:=by
 obtain ⟨a',c',w',hr,hB,ho,h1,h2,h3⟩:=run_append_empty elemInt1 ty g hg ao m c _ (intsFlat hI) hb
 by_cases hm:0<m
 ·obtain ⟨s,t,g1,g2,g3,g4⟩:=Own.headX (intsOf (ho hm) hI.2.2.2.1) hB.size hm
  exact ⟨a',c',w',s,t,hr,hB,g1,g2,g3,g4⟩
 ·refine ⟨a',c',w',w.heap.size,w.heap.size,hr,hB,Nat.le_refl _,hB.size,⟨⟨hI.len,h1,h2,hI.2.2.2.1,fun h=>absurd h hm,h3⟩,fun hmc=>?_⟩,fun h=>by omega⟩
  exfalso
  obtain ⟨i0,z,hi0,hz0,hz1,hz2,hz3⟩:=elemInt1.info
  obtain rfl:m=0:=by omega
  have hown:OwnF 3 1 g w (some ⟨g,0,none⟩) 0 0 []:=ownF_empty 3 1 w g g (Nat.le_refl _) hg
  cases ao with
  | none =>
   have hc0:=hI.2.2.2.2.2 rfl
   subst hc0
   rw [run_append_owned_none (P:=Try.prog) (w:=w) g 27 ty 3 i0 1 elemInt1.under hi0 _ 0 _ hown.1] at hr
   simp only [Result.ok.injEq,Value.slice.injEq] at hr
   omega
  | some ad =>
   rw [run_append_room (P:=Try.prog) w 27 ty 3 i0 elemInt1.under hi0 g 0 0 #[] hg ad 0 c [] (by simp) (fun j u hj=>by simp at hj) (fun u hu=>(by cases hu)) (by omega) (by simp)] at hr
   simp only [Result.ok.injEq,Value.slice.injEq] at hr
   omega
def GvApart (w:World) (n:Nat) (xs:List Int) (e:Ending) (w':World):Prop:=∃ a c s t,e=.returned (.slice a n c)∧Below w.heap.size w w'∧w.heap.size≤s∧t≤w'.heap.size∧intsX s t w' a n c xs∧HeadI w' s t
set_option maxHeartbeats 1600000 in
theorem implCopyInts {fz:Bool} {lo hi:Nat} (a:Option Addr) (n c:Nat) (xs:List Int) (w:World) (hI:IntsA fz lo hi w a n c xs) (hh:hi≤w.heap.size) (hn:n≤1048576) :
 Calls Try.prog 50 #[.slice a n c] w (GvApart w n xs):=by
 obtain ⟨a1,c1,w3,s,t,hr,hb3,k1,k2,k3,k4⟩:=run_append_ints (w:=w.alloc (.cells #[] 3)) 27 w.heap.size (heap_alloc_new _ _) a n c xs (hI.al hh _) (by omega)
 have HK:=hid (And.intro hb3 (And.intro k1 (And.intro k2 (And.intro k3 k4))));clear hb3 k1 k2 k3 k4 hI
 go_enter Try.func50,Try.ntmps50
 go_wp2_with (at_builtin;refine wpList_plain rfl fun K hK=>?_;unfold Oper.wp;simp [execOp,resolve,invoke,builtin,Act.eval,hr,Result.andThen];refine hK _ _ ?_)
 go_wp2
 go_ret
 exact ⟨a1,c1,s,t,rfl,Below.trans belA (HK.out.1.mono (by simp)),by have:=HK.out.2.1;simp at this;omega,HK.out.2.2.1,HK.out.2.2.2.1,HK.out.2.2.2.2⟩
def GvRowsS (w:World) (n:Nat) (xss:List (List Int)) (e:Ending) (w':World):Prop:=∃ a c,e=.returned (.slice a n c)∧RowsS w.heap.size w'.heap.size w' a n c xss∧Below w.heap.size w w'
theorem grown_laterI {e:TypeId} {base:Nat} {w0 w w':World} {a:Option Addr} {n c:Nat} {vs:List Value} (ho:OwnV e base w0 a n c vs) (hg:w.grownBy w' (Value.slice a n c).ownBlock) {s t:Nat} (h1:w0.heap.size≤s) (h2:t≤w.heap.size):Keeps s t w w':=by
 intro k hk1 hk2
 refine hg.block _ (by omega) ?_
 intro e'
 have:=ho.1.lt k e'.symm
 omega
theorem OwnV.grow1I {e:TypeId} {B B0:Nat} {w wr w1:World} {o1:Obj} {a:Option Addr} {n c:Nat} {vs:List Value} (h:OwnV e B wr a n c vs) (hb:Below B0 w wr) (h0:B0≤B) (hB:B0≤wr.heap.size) (hg:(wr.alloc o1).grownBy w1 (Value.slice a n c).ownBlock):Below B0 w w1 :=
 (hb.alloc hB o1).grown hg (by simp;omega) (fun k hk=>by have:=h.1.lt k hk;omega)
theorem take_snocR (xss:List (List Int)) {k:Nat} (h:k<xss.length):xss.take (k+1)=xss.take k ++ [rx xss k]:=by
 rw [List.take_succ_eq_append_getElem h,rx_lt h]
set_option maxRecDepth 100000 in
set_option maxHeartbeats 3200000 in
theorem implCopyRows {fz:Bool} {lo hi:Nat} (a:Option Addr) (n c:Nat) (xss:List (List Int)) (w:World) (hI:RowsA fz lo hi w a n c xss) (hh:hi≤w.heap.size) (hs:rowsSz xss≤1048576) :
 Calls Try.prog 49 #[.slice a n c] w (GvRowsS w n xss):=by
 have hl:=hI.len
 have hn:n≤1048576:=by unfold rowsSz at hs;omega
 have HL:=hid hl;have HS:=hid hs;clear hl hs
 go_enter Try.func49,Try.ntmps49
 go_wp2_with fail
 go_loopw [8,3,5] (fun i v _ wr=>∃ (k:Nat) (oo:Option Addr) (om oc:Nat) (vs:List Value),i=.int .i64 k∧v=.slice oo om oc∧k≤n∧Hid (OwnV 27 w.heap.size wr oo om oc vs∧SepV intsQ w.heap.size wr.heap.size wr vs (xss.take k))∧Hid (Below w.heap.size w wr)) (fun i _ _ _=>n - (intOf i).toNat)
 case atStart=>exact ⟨0,_,0,0,[],rfl,rfl,by omega,hid ⟨ownV_nil _ _ _,SepV.nil _ _ _ _⟩,hid (Below.refl _ _)⟩
 case round =>
  obtain ⟨k,oo,om,oc,vs,rfl,rfl,hk,HO,HB⟩:=hrel
  have hom:om=k:=by have h1:=HO.out.1.len;have h2:=HO.out.2.1;have h3:=HL.out;rw [List.length_take] at h2;omega
  have homb:om≤1048576:=by omega
  have HOM:=hid hom;clear hom
  have hzr:=HB.out.size
  by_cases hlt:k<n
  ·have hIr:RowsA fz lo hi wr a n c xss:=SlA.be intsOK hI HB.out hh
   obtain ⟨b,off,rfl⟩:=hIr.some (by omega)
   obtain ⟨_,_,ra,rn,rc,d0,hr,_⟩:=hIr.at hlt
   have hrl:=hr.len
   have hrn:rn≤1048576:=by have:=rowsSz_row HS.out k;omega
   have HI:=hid (And.intro hIr hr);clear hIr hr hrl
   go_wp2_with fail
   refine (implCopyInts ra rn rc (rx xss k) wr HI.out.2 (by omega) hrn).mono ?_
   rintro e w2 ⟨a2,c2,s,t,rfl,hb2,k1,k2,k3,k4⟩
   have hz2:=hb2.size
   have HOV:=hid (And.intro (HO.out.1.keep (Keeps.of_below hb2 (Nat.le_refl _))) (SepV.keep intsQOK HO.out.2 (Keeps.of_below hb2 (Nat.le_refl _))))
   have HB2:=hid (HB.out.trans (hb2.mono (by omega)))
   have HK:=hid (And.intro k3.1 k4);clear hb2 k3 k4
   go_wp2_with (at_builtin;refine wpAppV elemRowI rfl (.tmp 12) (.tmp 15) rfl w.heap.size oo om oc vs rfl (HOV.out.1.alloc _) _ 1 1 [.slice a2 rn c2] rfl (vals_one _ _ 27 _ rfl 0 _ (Nat.zero_le _) (Nat.lt_succ_self _) (heap_alloc_new _ _)) (by omega) (by first | omega | (simp;omega)) ?_)
   intro a1 c1' w5 ho2 hg2
   have hb5:Below w.heap.size w w5:=HOV.out.1.grow1I HB2.out (Nat.le_refl _) (by omega) hg2
   have hz5:=hg2.size;simp at hz5
   have hkk:=grown_laterI HO.out.1 hg2 (s:=s) (t:=t) k1 (by simp;omega)
   have hrow:intsQ s t w5 a2 rn c2 (rx xss k):=IntsA.keep (HK.out.1.keep (Keeps.al (Keeps.refl _ _ _) k2 _)) hkk
   have hd5:HeadI w5 s t:=(HK.out.2.keep (Keeps.al (Keeps.refl s t _) k2 _) (Nat.le_refl _) (Nat.le_refl _)).keep hkk (Nat.le_refl _) (Nat.le_refl _)
   have hsv5:SepV intsQ w.heap.size wr.heap.size w5 vs (xss.take k):=SepV.grown intsQOK (SepV.keep intsQOK HOV.out.2 (Keeps.al (Keeps.refl _ _ _) (by omega) _)) (HOV.out.1.alloc _) hg2 (by simp;omega)
   have HS5:=hid (hsv5.snoc (hi':=w5.heap.size) hrow hd5 (by omega) k1 (by omega) (by omega))
   have HO5:=hid ho2;have HB5:=hid hb5
   clear ho2 hg2 hb5 hz5 hkk hrow hd5 hsv5 k1 k2
   go_wp2_with fail
   go_roundw
   case rel=>exact ⟨k+1,a1,om+1,c1',_,by go_num,rfl,by omega,hid ⟨HO5.out,by rw [take_snocR xss (by rw [HL.out];exact hlt)];exact HS5.out⟩,HB5⟩
   case measure=>simp [intOf];omega
  ·obtain rfl:n=k:=by omega
   go_wp2_with fail
   go_ret
   obtain rfl:om=n:=HOM.out
   exact ⟨_,_,rfl,SepA.own HO.out.1 (by have h:=HO.out.2;rwa [List.take_of_length_le (by rw [HL.out];exact Nat.le_refl _)] at h),HB.out⟩
end Go.Proofs.Ytfobmfngbfbfdaa
