/- Lemmas for the proof of FnExactMaximize, part 12 of 56: no condition of their own. -/
import Derived.Test.YtpbclpopoodklaaCell
import Derived.Orders
namespace Go.Proofs.Ytpbclpopoodklaa
set_option linter.unusedSimpArgs false
set_option linter.unusedVariables false
open Go.RowKit
section
variable {P:Program} {ops:Array Oper} {Q:Exit→Act→World→Prop}
def notDone (ops:Array Oper) (listed:Array Bool):List Nat:=(List.range ops.size).filter fun i=>!listed.getD i true
theorem notDone_set {listed:Array Bool} {i:Nat} (hi:i<ops.size) (hs:listed.size=ops.size) (hf:listed.getD i true=false) :
    (notDone ops (listed.setIfInBounds i true)).length<(notDone ops listed).length:=by
  unfold notDone
  have hsub:∀ j,(!(listed.setIfInBounds i true).getD j true)=((!listed.getD j true) && decide (j ≠ i)):=by
    intro j
    by_cases e:i=j
    · subst e;simp [show i<listed.size by omega]
    · rw [getD_set_ne true e];simp [show j ≠ i from fun h=>e h.symm]
  have hmem:i∈(List.range ops.size).filter fun j=>!listed.getD j true:=List.mem_filter.2 ⟨List.mem_range.2 hi,by rw [hf];rfl⟩
  have h1:((List.range ops.size).filter fun j=>!(listed.setIfInBounds i true).getD j true)=(((List.range ops.size).filter fun j=>!listed.getD j true).filter fun j=>decide (j ≠ i)):=by
    rw [List.filter_filter];congr 1;funext j;rw [hsub j,Bool.and_comm]
  rw [h1]
  exact List.length_filter_lt_length_iff_exists.2 ⟨i,hmem,by simp⟩
theorem wp_region_inv {id:Nat} {a:Act} {w:World} (hm:P.follows .mixedOrders=true) (Inv:(Nat→Bool)→Act→World→Prop)
    (hback:∀ i o,ops[i]? = some o→∀ e∈o.after,Region.binds .any e=true→e.on<i)
    (h0:Inv (fun _=>false) a w.drew)
    (hs:∀ (d:Nat→Bool) a' w' i o,ops[i]? = some o→d i=false→(∀ e∈o.after,Region.binds .any e=true→d e.on=true) →
      (∀ j o',ops[j]? = some o'→d j=true→∀ e∈o'.after,Region.binds .any e=true→d e.on=true)→(∀ j,ops.size≤j→d j=false)→Inv d a' w' →
      wpOp P ops Q i (fun a'' w''=>Inv (fun j=>if j=i then true else d j) a'' w'') a' w')
    (he:∀ (d:Nat→Bool) a' w',(∀ i,i<ops.size→d i=true)→(∀ j,ops.size≤j→d j=false)→Inv d a' w'→Q .normal a' w') :
    (Code.region id ops true).wp P Q a w:=by
  have all:∀ (listed:Array Bool),listed.size=ops.size→Region.ready .any ops listed=[]→∀ i,i<ops.size→listed.getD i false=true:=by
    intro listed hsz hr i
    induction i using Nat.strongRecOn with
    | ind i ih =>
      intro hi
      cases hd:listed.getD i false with
      | true=>rfl
      | false =>
        exfalso
        have hmem:i∈Region.ready .any ops listed:=mem_ready.2 ⟨by
          have h1:i<listed.size:=by omega
          simp [Array.getD,h1] at hd ⊢;exact hd,ops[i],by simp [hi],fun e he' hb=>by
          have hlt:=hback i ops[i] (by simp [hi]) e he' hb
          exact ih _ hlt (by omega)⟩
        rw [hr] at hmem;cases hmem
  have key:∀ (fuel:Nat) (listed:Array Bool) (a':Act) (w':World),listed.size=ops.size→(notDone ops listed).length≤fuel →
      (∀ j o',ops[j]? = some o'→listed.getD j false=true→∀ e∈o'.after,Region.binds .any e=true→listed.getD e.on false=true) →
      Inv (fun i=>listed.getD i false) a' w'→wpAny P .any ops Q fuel listed a' w':=by
    intro fuel
    induction fuel with
    | zero =>
      intro listed a' w' hsz hc hcl hI
      have hnil:notDone ops listed=[]:=List.eq_nil_of_length_eq_zero (by omega)
      have hr:Region.ready .any ops listed=[]:=by
        cases hr:Region.ready .any ops listed with
        | nil=>rfl
        | cons x xs =>
          have hx:x∈Region.ready .any ops listed:=by rw [hr];simp
          obtain ⟨h1,o,ho,_⟩:=mem_ready.1 hx
          have:x∈notDone ops listed:=List.mem_filter.2 ⟨List.mem_range.2 (Array.getElem?_eq_some_iff.1 ho).1,by rw [h1];rfl⟩
          rw [hnil] at this;cases this
      exact ⟨hr,he _ _ _ (all listed hsz hr) (fun j hj=>by simp [Array.getD,show ¬ j<listed.size by omega]) hI⟩
    | succ fuel ih =>
      intro listed a' w' hsz hc hcl hI
      refine ⟨fun hr=>he _ _ _ (all listed hsz hr) (fun j hj=>by simp [Array.getD,show ¬ j<listed.size by omega]) hI,fun i hi=>?_⟩
      obtain ⟨h1,o,ho,h2⟩:=mem_ready.1 hi
      have hlt:=(Array.getElem?_eq_some_iff.1 ho).1
      have hd:listed.getD i false=false:=by
        have h3:i<listed.size:=by omega
        simp [Array.getD,h3] at h1 ⊢;exact h1
      refine wpOp_mono (fun a'' w'' hI'=>ih (listed.setIfInBounds i true) a'' w'' (by simpa using hsz) ?_ ?_ ?_) (hs _ a' w' i o ho hd h2 hcl (fun j hj=>by simp [Array.getD,show ¬ j<listed.size by omega]) hI)
      · have:=notDone_set hlt hsz h1;omega
      · intro j o' ho' hj e he' hb
        by_cases hji:i=j
        · subst hji
          rw [ho] at ho';cases ho'
          by_cases hei:i=e.on
          · rw [← hei];simp [show i<listed.size by omega]
          · rw [getD_set_ne false hei];exact h2 e he' hb
        · rw [getD_set_ne false hji] at hj
          by_cases hei:i=e.on
          · rw [← hei];simp [show i<listed.size by omega]
          · rw [getD_set_ne false hei];exact hcl j o' ho' hj e he' hb
      · have heq:(fun j=>if j=i then true else listed.getD j false)=(fun j=>(listed.setIfInBounds i true).getD j false):=by
          symm
          funext j
          by_cases e:i=j
          · subst e;simp [show i<listed.size by omega]
          · rw [getD_set_ne false e];simp [show ¬ j=i from fun h=>e h.symm]
        exact heq ▸ hI'
  refine wp_region_any hm (key _ _ _ _ (by simp) ?_ ?_ ?_)
  · unfold notDone;exact Nat.le_trans (List.length_filter_le _ _) (by simp)
  · intro j o' ho' hj;exfalso
    by_cases hjs:j<ops.size <;> simp [Array.getD,hjs] at hj
  · have:(fun i=>(Array.replicate ops.size false).getD i false)=fun _=>false:=by
      funext i
      by_cases h:i<ops.size <;> simp [Array.getD,h]
    rw [this];exact h0
def reachF (ops:Array Oper):Nat→Nat→Nat→Bool
  | 0,_,_=>false
  | f+1,k,j=>match ops[k]? with
    | some o=>o.after.toList.any fun e=>Region.binds .any e && (e.on == j || reachF ops f e.on j)
    | none=>false
theorem reachF_done {d:Nat→Bool} (hcl:∀ j o',ops[j]? = some o'→d j=true→∀ e∈o'.after,Region.binds .any e=true→d e.on=true) :
    ∀ (f k j:Nat),(∀ o,ops[k]? = some o→∀ e∈o.after,Region.binds .any e=true→d e.on=true)→reachF ops f k j=true→d j=true:=by
  intro f
  induction f with
  | zero=>intro k j _ h;simp [reachF] at h
  | succ f ih =>
    intro k j hk h
    unfold reachF at h
    cases ho:ops[k]? with
    | none=>rw [ho] at h;cases h
    | some o =>
      rw [ho] at h
      simp only [List.any_eq_true,Bool.and_eq_true,Bool.or_eq_true,beq_iff_eq] at h
      obtain ⟨e,he,hb,h1⟩:=h
      have hd:=hk o ho e (by simpa using he) hb
      rcases h1 with rfl | h1
      · exact hd
      · exact ih e.on j (fun o' ho'=>hcl e.on o' ho' hd) h1
structure GrowChk (ops:Array Oper) (n N:Nat):Prop where
  pos:0<n
  le:n≤ops.size
  back:∀ i o,ops[i]? = some o→∀ e∈o.after,Region.binds .any e=true→e.on<i
  guard:∀ i o,i<n→ops[i]? = some o→o.guard=none
  dst:∀ i o,i<n→ops[i]? = some o→∃ t,o.dst=some t∧t<N
  apart:∀ i j o o' t,i<n→j<n→i ≠ j→ops[i]? = some o→ops[j]? = some o'→o.dst=some t→o'.dst ≠ some t
  tail:∀ i j,n≤i→i<ops.size→j<i→reachF ops ops.size i j=true
def GrowFr (ops:Array Oper) (n:Nat) (a a':Act):Prop:=a'.defers=a.defers∧a'.tmps.size=a.tmps.size∧∀ t,(∀ i o,i<n→ops[i]? = some o→o.dst ≠ some t)→a'.tmps.getD t undef=a.tmps.getD t undef
def notDstB (ops:Array Oper) (n t:Nat):Bool:=(List.range n).all fun i=>match ops[i]? with | some o=>decide (o.dst ≠ some t) | none=>true
theorem GrowFr.at {n:Nat} {a a':Act} (h:GrowFr ops n a a') (t:Nat) (hb:notDstB ops n t=true):a'.tmps.getD t undef=a.tmps.getD t undef:=by
  refine h.2.2 t fun i o hi ho=>?_
  simp only [notDstB,List.all_eq_true,List.mem_range] at hb
  have:=hb i hi
  rw [ho] at this
  simpa using this
theorem GrowFr.ev {n:Nat} {a a':Act} (h:GrowFr ops n a a') (t:Nat) (hb:notDstB ops n t=true) {v:Value} (hv:a.tmps.getD t undef=v):a'.eval (.tmp t)=v:=by
  rw [← hv];exact h.at t hb
end
end Go.Proofs.Ytpbclpopoodklaa
