/- Lemmas for the proof of FnExactMaximize, part 14 of 56: no condition of their own. -/
import Derived.Test.YtpbclpopoodklaaZC
namespace Go.Proofs.Ytpbclpopoodklaa
set_option linter.unusedSimpArgs false
set_option linter.unusedVariables false
attribute [local go_sem ↓] reduceIte
attribute [local go_sem] Nat.reduceEqDiff Nat.reduceLT Nat.reduceAdd Nat.reduceLeDiff Nat.reduceMul Nat.reduceBEq Nat.reduceSub reduceCtorEq Int.reduceLE Int.reduceNeg Int.reduceLT
open Go.RowKit
section
variable {ty:TypeId→Option TyI} {N:Nat} {ops:List Oper} {s:AS} {K:AS→Prop}
def aopsD (ty:TypeId→Option TyI) (N:Nat) (ops:List Oper) (fls:List (List Nat)):List Nat→AS→(AS→Prop)→Prop
  | [],s,K=>K s
  | i :: l,s,K=>match ops[i]? with
    | some o=>stepD ty N ops (fls.getD i []) o s (fun s'=>aopsD ty N ops fls l s' K)
    | none=>aopsD ty N ops fls l s K
theorem stepD_mono {fl:List Nat} {o:Oper} {K':AS→Prop} (h:stepD ty N ops fl o s K) (hk:∀ s,K s→K' s):stepD ty N ops fl o s K':=by
  obtain ⟨V,h1,h2,h3⟩:=h
  exact ⟨V,h1,h2,fun e he=>⟨(h3 e he).1,hk _ (h3 e he).2⟩⟩
theorem front (ht:TabOK ty) {fls:List (List Nat)} {i:Nat} {o:Oper} (ho:ops[i]? = some o) {post:List Nat}:∀ (pre:List Nat) (s:AS),(∀ j∈pre,∀ p,ops[j]? = some p→Ind ops (fls.getD j []) (fls.getD i []) p o) →
    aopsD ty N ops fls (pre ++ i :: post) s K→stepD ty N ops (fls.getD i []) o s (fun s'=>aopsD ty N ops fls (pre ++ post) s' K)
  | [],s,_,h=>by
    simp only [List.nil_append,aopsD,ho] at h
    exact h
  | j :: pre,s,hi,h=>by
    simp only [List.cons_append,aopsD] at h ⊢
    cases hj:ops[j]? with
    | none =>
      rw [hj] at h
      simp only at h ⊢
      exact front ht ho pre s (fun k hk=>hi k (List.mem_cons_of_mem _ hk)) h
    | some p =>
      rw [hj] at h
      simp only at h ⊢
      have h1:=stepD_mono h (fun s1 hs1=>front ht ho pre s1 (fun k hk=>hi k (List.mem_cons_of_mem _ hk)) hs1)
      exact swap ht (hi j (List.mem_cons_self ..) p hj) h1
theorem stepD_ok (ht:TabOK ty) {X:Cx} {G:Gh} {a:Act} {w:World} {fl:List Nat} {o:Oper} {i:Nat} (hN:X.N=N) (h:RelG X G s a w) (ho:ops[i]? = some o) (hs:stepD ty N ops fl o s K) {Q:Exit→Act→World→Prop} {nx:Act→World→Prop} (hn:∀ s' a' w',K s'→Rel X s' a' w'→nx a' w'):wpOp Try.prog ops.toArray Q i nx a w:=by
  subst hN
  obtain ⟨V,hV,hne,hall⟩:=hs
  have hOS:OS ty X.N o s V→o.wp Try.prog a w nx Q:=fun hv=>by
    refine astep_ok ht h (K:=K) ?_ nx Q hn
    unfold OS at hv
    split at hv
    · obtain ⟨d,c,g,ns,os0,args,R,hop,hcal,hdst,hlt,hob,hln,hsub,hA,hne',hle,rfl⟩:=hv
      unfold astep
      rw [hop];simp only
      rw [hcal];simp only
      unfold sCall
      simp only [ev,List.append_nil]
      refine ⟨d,ns,args,os0,R,hdst,hlt,hA,hsub,?_,?_,?_,fun r os hr=>?_⟩
      · rcases hln with ⟨rfl,rfl⟩ | ⟨q,l,rfl,rfl,_,hq,hi,_⟩
        · rfl
        · exact ⟨l,l,[],rfl,hq,inerts_sub hi,rfl⟩
      · rcases hln with ⟨rfl,rfl⟩ | ⟨q,l,rfl,rfl,hqd,_⟩
        · exact fun i hi=>(by cases hi)
        · intro i hi
          obtain rfl:i=0:=by simpa using hi
          simpa using hqd
      · rcases hln with ⟨rfl,rfl⟩ | ⟨q,l,rfl,rfl,hqd,_⟩
        · exact fun i j hi=>(by cases hi)
        · intro i j hi hj _
          obtain rfl:i=0:=by simpa using hi
          obtain rfl:j=0:=by simpa using hj
          rfl
      · obtain ⟨ext,rfl,hl⟩:=hle r os hr
        have:=(hall _ ⟨r,ext,hr,rfl⟩).2
        rw [hdst,cE_app d r ext s hln] at this
        refine ⟨?_,this⟩
        rcases hln with ⟨rfl,rfl⟩ | ⟨q,l,rfl,rfl,_⟩
        · simpa using hl
        · simp only [List.length_append,List.length_cons,List.length_nil];omega
    · obtain ⟨c,e,h1,hc,rfl⟩:=hv
      exact dOp_of ⟨c,e,h1,hc,(hall e rfl).2⟩
  unfold wpOp
  have ho':ops.toArray[i]? = some o:=by simpa using ho
  rw [ho']
  simp only
  unfold OSG at hV
  split at hV
  · rename_i hg
    rw [if_pos (by simp [Region.wanted,hg])]
    exact .inl (hOS hV)
  · rename_i j want hg
    obtain ⟨t,b,h1,h2,h3,h4,h5⟩:=hV
    have hv:=h.tm t h2
    rw [h3] at hv
    have hv':=cvBool.1 hv
    have hy:yielded ops.toArray a.tmps j=some b:=by
      have g1:(ops.toArray[j]?).bind (·.dst)=some t:=by simpa using h1
      have g2:a.tmps[t]? = some (.bool b):=by
        have h3:t<a.tmps.size:=by rw [h.n];exact h2
        rw [Array.getD_eq_getD_getElem?] at hv'
        rw [Array.getElem?_eq_getElem h3] at hv' ⊢
        simpa using hv'
      simp only [yielded,g1,Option.bind_some,g2]
    by_cases e:b=want
    · rw [if_pos (by simp [Region.wanted,hg,hy,e])]
      exact .inl (hOS (h4 e))
    · rw [if_neg (by simp [Region.wanted,hg,hy,e])]
      have:=h5 e
      subst this
      have hk:=(hall _ rfl).2
      rw [pE_app] at hk
      exact hn _ _ _ hk ⟨G,h.putD o.dst trivial⟩
end
def indB (ops:List Oper) (fp fq:List Nat) (p q:Oper):Bool :=
  (match p.dst with
    | some t=>decide (q.dst ≠ some t) && !(rdG ops q).contains t && (!(clsOp p.op == 2 || clsOp p.op == 4) || fq.contains t)
    | none=>true) &&
  (match q.dst with
    | some t=>!(rdG ops p).contains t && (!(clsOp q.op == 2 || clsOp q.op == 4) || fp.contains t)
    | none=>true) &&
  !(clsOp p.op == 4 && clsOp q.op == 4) && (!(clsOp p.op == 3) || clsOp q.op == 0) && (!(clsOp q.op == 3) || clsOp p.op == 0)
theorem ind_of {ops:List Oper} {fp fq:List Nat} {p q:Oper} (h:indB ops fp fq p q=true):Ind ops fp fq p q:=by
  simp only [indB,Bool.and_eq_true] at h
  obtain ⟨⟨⟨⟨h1,h2⟩,h3⟩,h4⟩,h5⟩:=h
  refine ⟨fun t ht=>?_,fun t ht e=>?_,fun t ht e=>?_,fun ⟨a,b⟩=>?_,fun a=>?_,fun a=>?_,fun a t ht=>?_,fun a t ht=>?_⟩
  · rw [ht] at h1;simp only [Bool.and_eq_true,decide_eq_true_eq] at h1;exact h1.1.1
  · rw [e] at h1;simp only [Bool.and_eq_true,Bool.not_eq_true'] at h1;have:=h1.1.2;simp only [List.contains_eq_mem,decide_eq_false_iff_not] at this;exact this ht
  · rw [e] at h2;simp only [Bool.and_eq_true,Bool.not_eq_true'] at h2;have:=h2.1;simp only [List.contains_eq_mem,decide_eq_false_iff_not] at this;exact this ht
  · simp [a,b] at h3
  · simpa [a] using h4
  · simpa [a] using h5
  · rw [ht] at h2
    simp only [Bool.and_eq_true] at h2
    have:=h2.2
    rcases a with a | a <;> simpa [a] using this
  · rw [ht] at h1
    simp only [Bool.and_eq_true] at h1
    have:=h1.2
    rcases a with a | a <;> simpa [a] using this
def drawB (ops:List Oper) (fls:List (List Nat)):Bool :=
  (List.range ops.length).all fun i=>match ops[i]? with
    | some o=>o.after.toList.all (fun e=>!Region.binds .any e || decide (e.on<i)) &&
        (List.range i).all (fun j=>reachF ops.toArray ops.length i j || match ops[j]? with
          | some p=>indB ops (fls.getD j []) (fls.getD i []) p o
          | none=>true)
    | none=>true
theorem filter_split (f:Nat→Bool) (n i:Nat) (hi:i<n) (hf:f i=true):∃ post,(List.range n).filter f=(List.range i).filter f ++ i :: post∧(List.range n).filter (fun j=>f j && !(j == i))=(List.range i).filter f ++ post:=by
  obtain ⟨m,rfl⟩:∃ m,n=i+(1+m):=⟨n - i - 1,by omega⟩
  have hr:List.range (i+(1+m))=List.range i ++ (i :: (List.range m).map (fun x=>i+(1+x))):=by
    rw [List.range_add,List.range_add,List.map_append,List.map_map]
    simp [List.range_succ,Function.comp_def]
  refine ⟨((List.range m).map (fun x=>i+(1+x))).filter f,?_,?_⟩
  · rw [hr,List.filter_append,List.filter_cons_of_pos hf]
  · rw [hr,List.filter_append,List.filter_cons_of_neg (by simp)]
    congr 1
    · apply List.filter_congr
      intro x hx
      have:x<i:=List.mem_range.1 hx
      have e:(x == i)=false:=by simp;omega
      rw [e];simp
    · apply List.filter_congr
      intro x hx
      obtain ⟨y,_,rfl⟩:=List.mem_map.1 hx
      have e:(i+(1+y) == i)=false:=by simp
      rw [e];simp
theorem awp_regionD {ty:TypeId→Option TyI} {P:Cx→Prop} {N:Nat} {Q:Exit→AS→Prop} {s:AS} (ht:TabOK ty) (hm:Try.prog.follows .mixedOrders=true) {id:Nat} {l:List Oper} {fls:List (List Nat)} (hB:drawB l fls=true) (h:aopsD ty N l fls (List.range l.length) s (Q .normal)):AWp P N (.region id l.toArray true) Q s:=by
  intro X a w hN hP ⟨G,hr⟩
  have hchk:∀ i o,l[i]? = some o→(∀ e∈o.after,Region.binds .any e=true→e.on<i)∧∀ j,j<i→reachF l.toArray l.length i j=true∨∀ p,l[j]? = some p→Ind l (fls.getD j []) (fls.getD i []) p o:=by
    intro i o ho
    have hi:=(List.getElem?_eq_some_iff.1 ho).1
    have:=List.all_eq_true.1 hB i (List.mem_range.2 hi)
    rw [ho] at this
    simp only [Bool.and_eq_true] at this
    refine ⟨fun e he hb=>?_,fun j hj=>?_⟩
    · have h1:=List.all_eq_true.1 this.1 e (by simpa using he)
      rw [hb] at h1
      simpa using h1
    · have h1:=List.all_eq_true.1 this.2 j (List.mem_range.2 hj)
      simp only [Bool.or_eq_true] at h1
      rcases h1 with h1 | h1
      · exact .inl h1
      · refine .inr fun p hp=>?_
        rw [hp] at h1
        exact ind_of h1
  refine wp_region_inv hm (fun d a' w'=>∃ s',Rel X s' a' w'∧aopsD ty N l fls ((List.range l.length).filter fun i=>!d i) s' (Q .normal)) (fun i o ho=>(hchk i o (by simpa using ho)).1) ?_ ?_ ?_
  · refine ⟨s,⟨G,hr.drew⟩,?_⟩
    have:(List.range l.length).filter (fun i=>!(fun _=>false:Nat→Bool) i)=List.range l.length:=by simp
    rw [this];exact h
  · rintro d a' w' i o ho hd hdeps hcl hbig ⟨s',⟨G',hr'⟩,ha⟩
    have ho':l[i]? = some o:=by simpa using ho
    have hi:=(List.getElem?_eq_some_iff.1 ho').1
    obtain ⟨post,e1,e2⟩:=filter_split (fun j=>!d j) l.length i hi (by simp [hd])
    rw [e1] at ha
    have hfr:=front (ty:=ty) (N:=N) ht ho' _ s' (fun j hj p hp=>by
      obtain ⟨hj1,hj2⟩:=List.mem_filter.1 hj
      have hji:j<i:=List.mem_range.1 hj1
      rcases (hchk i o ho').2 j hji with h1 | h1
      · exfalso
        have:=reachF_done (ops:=l.toArray) hcl l.length i j (fun o' h2=>by rw [ho] at h2;cases h2;exact hdeps) h1
        rw [this] at hj2;cases hj2
      · exact h1 p hp) ha
    refine stepD_ok ht hN hr' ho' hfr (fun s2 a2 w2 h2 h3=>⟨s2,h3,?_⟩)
    have e3:(List.range l.length).filter (fun j=>!(if j=i then true else d j))=(List.range l.length).filter (fun j=>(fun j=>!d j) j && !(j == i)):=by
      apply List.filter_congr
      intro x _
      by_cases ex:x=i
      · simp [ex]
      · simp [ex]
    rw [e3,e2];exact h2
  · rintro d a' w' hall hbig ⟨s',hr',ha⟩
    have:(List.range l.length).filter (fun i=>!d i)=[]:=by
      rw [List.filter_eq_nil_iff]
      intro x hx
      have:=hall x (by simpa using hx)
      simp [this]
    rw [this] at ha
    exact ⟨s',ha,hr'⟩
def dGoF (fl:List Nat) (x:Option (Prop×Eff)) (dst:Option Nat) (s:AS) (K:AS→Prop):Prop:=∃ c e,x=some (c,e)∧c∧(∀ g,e.nb=some g→some g=dst∨g ∉ fl)∧K (e.app dst s)
section
variable {fl:List Nat} {dst:Option Nat} {s:AS} {K:AS→Prop} {c:Prop}
theorem dGoF_p {v:AV}:dGoF fl (some (c,pE v)) dst s K↔c∧K (s.putD dst v):=by
  constructor
  · rintro ⟨c',f,h,h1,_,h2⟩;cases h;rw [pE_app] at h2;exact ⟨h1,h2⟩
  · rintro ⟨h1,h2⟩;exact ⟨c,pE v,rfl,h1,fun g hg=>(by cases hg),by rw [pE_app];exact h2⟩
theorem dGoF_o {d:Nat} {l:List AV}:dGoF fl (some (c,oE d l)) (some d) s K↔c∧K (s.newO d l):=by
  constructor
  · rintro ⟨c',f,h,h1,_,h2⟩;cases h;rw [oE_app] at h2;exact ⟨h1,h2⟩
  · rintro ⟨h1,h2⟩;exact ⟨c,_,rfl,h1,fun g hg=>(by cases hg),by rw [oE_app];exact h2⟩
theorem dGoF_b {g d:Nat} {v:AV}:dGoF fl (some (c,bE g v)) (some d) s K↔c∧(g=d∨g ∉ fl)∧K ((s.newB g).put d v):=by
  constructor
  · rintro ⟨c',f,h,h1,hn,h2⟩;cases h;rw [bE_app] at h2;exact ⟨h1,(hn g rfl).imp (fun e=>by cases e;rfl) (fun e=>e),h2⟩
  · rintro ⟨h1,hn,h2⟩;exact ⟨c,_,rfl,h1,fun g' hg=>by cases hg;exact hn.imp (fun e=>by rw [e]) (fun e=>e),by rw [bE_app];exact h2⟩
theorem dGoF_s {q:Nat} {l:List AV}:dGoF fl (some (c,sE q l)) none s K↔c∧K (s.setOb q (some l)):=by
  constructor
  · rintro ⟨c',f,h,h1,_,h2⟩;cases h;rw [sE_app] at h2;exact ⟨h1,h2⟩
  · rintro ⟨h1,h2⟩;exact ⟨c,_,rfl,h1,fun g hg=>(by cases hg),by rw [sE_app];exact h2⟩
theorem dGoF_none:dGoF fl none dst s K↔False:=⟨fun ⟨_,_,h,_⟩=>(by cases h),fun h=>h.elim⟩
end
def DCall (g:FuncId) (avs:List AV) (s:AS) (dst:Option Nat) (K:AS→Prop):Prop:=∃ d ns os0 args R,dst=some d∧d<1000000∧s.ob d=none∧Lent1 s d ns os0 args∧ASubs ns avs args∧AFn g args os0 R∧(∃ r os,R r os)∧∀ r os,R r os→∃ ext,os=os0 ++ ext∧ext.length≤1∧K ((s.call ns d os).put d (renA ns d r))
@[congr] theorem DCall.congr {g:FuncId} {avs avs':List AV} {s:AS} {dst:Option Nat} {K:AS→Prop} (h:avs=avs'):DCall g avs s dst K=DCall g avs' s dst K:=by rw [h]
def wOp (ty:TypeId→Option TyI) (N:Nat) (fl:List Nat) (o:Oper) (s:AS) (K:AS→Prop):Prop:=match o.op with
  | .call c=>(match c.callee with
    | .value (.func g)=>DCall g (evs N s c.args.toList) s o.dst K
    | _=>dGoF fl (dOp ty N o s) o.dst s K)
  | _=>dGoF fl (dOp ty N o s) o.dst s K
def flAt (ops:List Oper) (i:Nat):List Nat:=(List.range ops.length).filterMap fun j=>if j == i || reachF ops.toArray ops.length i j || reachF ops.toArray ops.length j i then none else match ops[j]? with
  | some p=>if clsOp p.op == 2 || clsOp p.op == 4 then p.dst else none
  | none=>none
def nbB (ops:List Oper) (i g d:Nat):Bool:=g == d || !(flAt ops i).contains g
theorem dGoF_b' {ops:List Oper} {i g d:Nat} {v:AV} {c:Prop} {s:AS} {K:AS→Prop}:dGoF (flAt ops i) (some (c,bE g v)) (some d) s K↔c∧nbB ops i g d=true∧K ((s.newB g).put d v):=by
  rw [dGoF_b]
  simp [nbB]
def wops (ty:TypeId→Option TyI) (N:Nat) (ops:List Oper):List Oper→Nat→AS→(AS→Prop)→Prop
  | [],_,s,K=>K s
  | o :: rest,i,s,K=>match o.guard with
    | none=>wOp ty N (flAt ops i) o s (fun s'=>wops ty N ops rest (i+1) s' K)
    | some (j,want)=>match (ops[j]?).bind (·.dst) with
      | some t=>t<N∧match s.tm t with
        | .d (.bool b)=>if b=want then wOp ty N (flAt ops i) o s (fun s'=>wops ty N ops rest (i+1) s' K) else wops ty N ops rest (i+1) (s.putD o.dst .junk) K
        | _=>False
      | none=>False
theorem KD_ex (ty:TypeId→Option TyI) (N:Nat) (ops rest:List Oper) (i:Nat) (K:AS→Prop):∃ f:AS→Prop,f=fun s=>wops ty N ops rest i s K:=⟨_,rfl⟩
noncomputable def KD (ty:TypeId→Option TyI) (N:Nat) (ops rest:List Oper) (i:Nat) (K:AS→Prop):AS→Prop:=Classical.choose (KD_ex ty N ops rest i K)
theorem KD_eq (ty:TypeId→Option TyI) (N:Nat) (ops rest:List Oper) (i:Nat) (K:AS→Prop):KD ty N ops rest i K=fun s=>wops ty N ops rest i s K:=Classical.choose_spec (KD_ex ty N ops rest i K)
theorem KD_app (ty:TypeId→Option TyI) (N:Nat) (ops rest:List Oper) (i:Nat) (K:AS→Prop) (s:AS):KD ty N ops rest i K s=wops ty N ops rest i s K:=by rw [KD_eq]
theorem wops_nil (ty:TypeId→Option TyI) (N:Nat) (ops:List Oper) (i:Nat) (s:AS) (K:AS→Prop):wops ty N ops [] i s K=K s:=rfl
theorem wops_cons (ty:TypeId→Option TyI) (N:Nat) (ops rest:List Oper) (o:Oper) (i:Nat) (s:AS) (K:AS→Prop):wops ty N ops (o :: rest) i s K=match o.guard with
    | none=>wOp ty N (flAt ops i) o s (KD ty N ops rest (i+1) K)
    | some (j,want)=>match (ops[j]?).bind (·.dst) with
      | some t=>t<N∧match s.tm t with
        | .d (.bool b)=>if b=want then wOp ty N (flAt ops i) o s (KD ty N ops rest (i+1) K) else KD ty N ops rest (i+1) K (s.putD o.dst .junk)
        | _=>False
      | none=>False:=by rw [KD_eq];rfl
theorem wOp_os {ty:TypeId→Option TyI} {N:Nat} {fl:List Nat} {o:Oper} {s:AS} {K:AS→Prop} (h:wOp ty N fl o s K):∃ V,OS ty N o s V∧(∃ e,V e)∧∀ e,V e→(∀ g,e.nb=some g→some g=o.dst∨g ∉ fl)∧K (e.app o.dst s):=by
  have det:clsOp o.op ≠ 4→dGoF fl (dOp ty N o s) o.dst s K→∃ V,OS ty N o s V∧(∃ e,V e)∧∀ e,V e→(∀ g,e.nb=some g→some g=o.dst∨g ∉ fl)∧K (e.app o.dst s):=fun hc ⟨c,e,h1,h2,h3,h4⟩ =>
    ⟨fun e'=>e'=e,by unfold OS;rw [if_neg hc];exact ⟨c,e,h1,h2,rfl⟩,⟨e,rfl⟩,by rintro _ rfl;exact ⟨h3,h4⟩⟩
  unfold wOp at h
  split at h
  · rename_i c ho
    split at h
    · rename_i g hcal
      obtain ⟨d,ns,ol,args,R,hdst,hlt,hob,hln,hsub,hA,⟨r0,os0,hr0⟩,hK⟩:=h
      obtain ⟨ext0,rfl,_,_⟩:=hK r0 os0 hr0
      refine ⟨fun e=>∃ r ext,R r (ol ++ ext)∧e=cE ns d r ext,?_,⟨_,r0,ext0,hr0,rfl⟩,?_⟩
      · unfold OS
        rw [if_pos (by rw [ho];simp [clsOp,hcal])]
        exact ⟨d,c,g,ns,ol,args,R,ho,hcal,hdst,hlt,hob,hln,hsub,hA,⟨r0,_,hr0⟩,fun r os hr=>(by obtain ⟨ext,h1,h2,_⟩:=hK r os hr;exact ⟨ext,h1,h2⟩),rfl⟩
      · rintro e ⟨r,ext,hr,rfl⟩
        refine ⟨fun g' hg=>by cases hg;exact .inl hdst.symm,?_⟩
        rw [hdst,cE_app d r ext s hln]
        obtain ⟨ext',h1,_,h3⟩:=hK r _ hr
        exact h3
    · rename_i hcal
      refine det (fun e=>?_) h
      rw [ho] at e
      simp only [clsOp] at e
      split at e
      · omega
      · omega
      · omega
      · omega
      · rename_i g hg;exact hcal g hg
      · omega
  · rename_i hno
    refine det (fun e=>?_) h
    unfold clsOp at e
    split at e <;> first | omega | (rename_i ho;exact hno _ ho)
theorem wops_ok {ty:TypeId→Option TyI} {N:Nat} {ops:List Oper} {fls:List (List Nat)} {K:AS→Prop} (hf:∀ i,i<ops.length→fls.getD i []=flAt ops i):∀ (rest:List Oper) (k:Nat) (s:AS),(∀ j,j<rest.length→rest[j]? = ops[k+j]?)→wops ty N ops rest k s K→aopsD ty N ops fls (List.range' k rest.length) s K
  | [],k,s,_,h=>h
  | o :: rest,k,s,h1,h=>by
    have h0:ops[k]? = some o:=by simpa using (h1 0 (by simp)).symm
    have f0:fls.getD k []=flAt ops k:=hf k (List.getElem?_eq_some_iff.1 h0).1
    have ih:=fun s' (hh:wops ty N ops rest (k+1) s' K)=>wops_ok hf rest (k+1) s' (fun j hj=>by have:=h1 (j+1) (by simpa using hj);simpa [Nat.add_assoc,Nat.add_comm 1 j] using this) hh
    simp only [List.length_cons,List.range'_succ,aopsD,h0,f0]
    unfold wops at h
    unfold stepD
    split at h
    · rename_i hg
      obtain ⟨V,g1,g2,g3⟩:=wOp_os h
      exact ⟨V,by unfold OSG;rw [hg];exact g1,g2,fun e he=>⟨(g3 e he).1,ih _ (g3 e he).2⟩⟩
    · rename_i j want hg
      split at h
      · rename_i t ht
        obtain ⟨hlt,h⟩:=h
        split at h
        · rename_i b hb
          split at h
          · rename_i e
            obtain ⟨V,g1,g2,g3⟩:=wOp_os h
            exact ⟨V,by unfold OSG;rw [hg];exact ⟨t,b,ht,hlt,hb,fun _=>g1,fun x=>absurd e x⟩,g2,fun e he=>⟨(g3 e he).1,ih _ (g3 e he).2⟩⟩
          · rename_i e
            refine ⟨fun e=>e=pE .junk,by unfold OSG;rw [hg];exact ⟨t,b,ht,hlt,hb,fun x=>absurd x e,fun _=>rfl⟩,⟨_,rfl⟩,?_⟩
            rintro _ rfl
            refine ⟨fun g hg=>(by cases hg),?_⟩
            rw [pE_app]
            exact ih _ h
        · exact h.elim
      · exact h.elim
theorem awp_draw {ty:TypeId→Option TyI} {P:Cx→Prop} {N:Nat} {Q:Exit→AS→Prop} {s:AS} (ht:TabOK ty) (hm:Try.prog.follows .mixedOrders=true) {id:Nat} {l:List Oper} (hB:drawB l ((List.range l.length).map (flAt l))=true) (h:∀ K:AS→Prop,(∀ s,Q .normal s→K s)→wops ty N l l 0 s K):AWp P N (.region id l.toArray true) Q s:=by
  refine awp_regionD ht hm hB ?_
  rw [List.range_eq_range']
  exact wops_ok (fun i hi=>by simp [List.getD,hi]) l 0 s (fun j _=>by simp) (h _ fun _ h=>h)
section
variable {ty:TypeId→Option TyI} {N:Nat} {ops l:List Oper} {i:Nat} {s:AS} {K:AS→Prop}
theorem aops_id (h:aops ty N ops l s K):aops ty N ops l s K:=h
theorem wops_id (h:wops ty N ops l i s K):wops ty N ops l i s K:=h
theorem ka_id {ty:TypeId→Option TyI} {N:Nat} {ops rest:List Oper} {s:AS} {K:AS→Prop} (h:aops ty N ops rest s K):KA ty N ops rest K s:=(KA_app ..).symm ▸ h
theorem kd_id {ty:TypeId→Option TyI} {N:Nat} {ops rest:List Oper} {i:Nat} {s:AS} {K:AS→Prop} (h:wops ty N ops rest i s K):KD ty N ops rest i K s:=(KD_app ..).symm ▸ h
theorem acall {f:FuncId} {avs args:List AV} {d:Nat} {R:AV→List (List AV)→Prop} (hA:AFn f args [] R) (hsub:ASubs [] avs args) (hlt:d<1000000) (h:∀ r os,R r os→os.length≤1∧K ((s.call [] d os).put d (renA [] d r))):ACall f avs s (some d) K :=
  ⟨d,[],args,[],R,rfl,hlt,hA,hsub,rfl,fun i hi=>(by cases hi),fun i j hi=>(by cases hi),fun r os hr=>h r os hr⟩
theorem acall1 {f:FuncId} {avs args:List AV} {d:Nat} {x:AV} (hA:AFn f args [] (fun r os=>r=x∧os=[])) (hsub:ASubs [] avs args) (hlt:d<1000000) (h:K ((s.call [] d []).put d (renA [] d x))):ACall f avs s (some d) K :=
  acall hA hsub hlt (fun r os ⟨e1,e2⟩=>by subst e1;subst e2;exact ⟨Nat.zero_le _,h⟩)
theorem dcall {f:FuncId} {avs args:List AV} {d:Nat} {R:AV→List (List AV)→Prop} (hA:AFn f args [] R) (hsub:ASubs [] avs args) (hlt:d<1000000) (hob:s.ob d=none) (hne:∃ r os,R r os) (h:∀ r os,R r os→os.length≤1∧K ((s.call [] d os).put d (renA [] d r))):DCall f avs s (some d) K :=
  ⟨d,[],[],args,R,rfl,hlt,hob,.inl ⟨rfl,rfl⟩,hsub,hA,hne,fun r os hr=>⟨os,rfl,h r os hr⟩⟩
theorem dcall1 {f:FuncId} {avs args:List AV} {d:Nat} {x:AV} (hA:AFn f args [] (fun r os=>r=x∧os=[])) (hsub:ASubs [] avs args) (hlt:d<1000000) (hob:s.ob d=none) (h:K ((s.call [] d []).put d (renA [] d x))):DCall f avs s (some d) K :=
  dcall hA hsub hlt hob ⟨_,_,rfl,rfl⟩ (fun r os ⟨e1,e2⟩=>by subst e1;subst e2;exact ⟨Nat.zero_le _,h⟩)
end
theorem call_ob (s:AS) (ns:List Nat) (d:Nat) (os:List (List AV)) (o:Nat):(s.call ns d os).ob o=if o=d then (os[ns.length]?).map (renAs ns d) else match obSel ns os o with
    | some l=>some (renAs ns d l)
    | none=>(s.ob o).map (scrubs (fun g=>!(g == d)) (fun o=>!(o == d))):=rfl
abbrev intsD (xs:List Int):DV:=.sl 1 (xs.map .int)
abbrev rowsD (xss:List (List Int)):DV:=.sl 1 (xss.map intsD)
abbrev whD (xs:List Int):DV:=.wh 1 (xs.map .int)
abbrev rowsV (xss:List (List Int)):DV:=.sl 1 (xss.map whD)
abbrev rowsW (xss:List (List Int)):DV:=.wh 1 (xss.map whD)
abbrev relD (ar:Int) (xss:List (List Int)):DV:=.agg [.int ar,rowsD xss]
abbrev relW (ar:Int) (xss:List (List Int)):DV:=.agg [.int ar,rowsW xss]
theorem cxk_wh {C:Nat→Nat→Prop} {w:World}:∀ {xss:List (List Int)} {us:List Value},CXk C w 1 (xss.map whD) us→CXk C w 1 (xss.map intsD) us
  | [],_,h=>h
  | x :: xss,us,h=>by
    obtain ⟨u,v,e,h1,h2,h3⟩:=h
    exact ⟨u,v,e,wh_sl h1,h2,cxk_wh h3⟩
theorem dle_rowsV (xss:List (List Int)):DLe (rowsV xss) (rowsD xss):=⟨rfl,fun C w us h=>by
  obtain ⟨a,n,c,vs,h1,h2,h3,h4⟩:=h
  exact ⟨a,n,c,vs,h1,by simpa using h2,cxk_wh h3,h4⟩⟩
theorem dle_tr {x y z:DV} (h:DLe x y) (h':DLe y z):DLe x z:=⟨h.1.trans h'.1,fun C w us k=>h'.2 C w us (h.2 C w us k)⟩
theorem dle_rowsW (xss:List (List Int)):DLe (rowsW xss) (rowsD xss):=dle_tr (dle_wh 1 _) (dle_rowsV xss)
theorem dle_rel0 (ar:Int):DLe (.agg [.int ar,.nl]) (.agg [.int ar,.wh 1 []]):=dle_agg (.cons (dle_refl _) (.cons (dle_nl 1) .nil))
theorem dle_relW (ar:Int) (xss:List (List Int)):DLe (relW ar xss) (relD ar xss):=dle_agg (.cons (dle_refl _) (.cons (dle_rowsW xss) .nil))
abbrev bigD (xs:List Int):DV:=.agg [.sl 1 (xs.map .int)]
def newG (C:Nat→Nat→Prop) (n:Nat) (w:World):Gh:=⟨fun b i=>C b i∨(n≤b∧b<w.heap.size∧w.frozen? ⟨b,i,none⟩=false),fun _=>.slice none 0 0,fun _=>0,fun _=>0,fun _=>0⟩
theorem stay_new {C:Nat→Nat→Prop} {w w':World} (hC:∀ b i,C b i→b<w.heap.size) (hb:Below w.heap.size w w'):Stay C (newG C w.heap.size w').C w w':=fun b o h=>⟨.inl h,hb.cell (p:=⟨b,o,none⟩) (hC b o h)⟩
theorem afn_of_calls {f:FuncId} {args:List AV} {R:AV→List (List AV)→Prop} (hf:FnOK f)
    (h:∀ (w:World) (G:Gh) (vs:List Value),CVs G w args vs→(∀ b i,G.C b i→b<w.heap.size)→Calls Try.prog f vs.toArray w (fun e w'=>Below w.heap.size w w'∧∃ v r,e=.returned v∧R r []∧CV (newG G.C w.heap.size w') w' r v)):AFn f args [] R:=by
  refine ⟨hf,fun w G vs h1 h2 _ _=>(h w G vs h1 h2).mono ?_⟩
  rintro e w' ⟨hb,v,r,rfl,hR,hv⟩
  refine ⟨v,r,[],newG G.C w.heap.size w',rfl,hR,hv,⟨hb.os,hb.tape,hb.output,hb.size,fun k hk _=>hb.block k hk⟩,stay_new h2 hb,Nat.zero_le _,fun i l hl=>by simp at hl,fun i hi=>absurd hi (Nat.not_lt_zero _),fun i hi hi2=>absurd hi2 (Nat.not_lt_zero _),fun i j hi=>absurd hi (Nat.not_lt_zero _),?_,?_,fun g=>⟨none,0,0,[],rfl,ownF_nil _ _ _ _,fun b hb=>by cases hb⟩,fun g h _ _=>rfl,fun o g ho=>absurd ho (Nat.not_lt_zero _),?_⟩
  · rintro b i (hc | ⟨_,hc,_⟩)
    · exact Nat.lt_of_lt_of_le (h2 b i hc) hb.size
    · exact hc
  · rintro b i (hc | ⟨hc,_⟩) hlt
    · exact hc
    · omega
  · rintro b i (hc | ⟨_,_,hc⟩) hz
    · have:=h2 b i hc;omega
    · exact hc
theorem leaf_afn {f:FuncId} {args:List AV} {v:Value} {r:AV} (hf:FnOK f) (hv:∀ G w,CV G w r v) (h:∀ (w:World) (G:Gh) (vs:List Value),CVs G w args vs→(∀ b i,G.C b i→b<w.heap.size)→Calls Try.prog f vs.toArray w (Leaves w v)) :
    AFn f args [] (fun r' os=>r'=r∧os=[]):=by
  refine afn_of_calls hf fun w G vs h1 h2=>(h w G vs h1 h2).mono ?_
  rintro e w' ⟨rfl,hb⟩
  exact ⟨hb,_,_,rfl,⟨rfl,rfl⟩,hv _ _⟩
theorem fnOK {f:FuncId} (h:(match Try.prog.funcs[f]? with | some fn=>!(fn.name == "runtime.NumGoroutine") && fn.body.isSome | none=>false)=true):FnOK f:=by
  split at h
  · rename_i fn e
    simp only [Bool.and_eq_true,Bool.not_eq_true'] at h
    exact ⟨fn,e,h.1,by cases hb:fn.body <;> simp_all⟩
  · cases h
def flatD (es:List DV):List DV:=(es.map dcells).flatten
mutual
def frz (o k:Nat) (es:List DV):AV→AV
  | .junk=>.junk
  | .d x=>.d x
  | .nil=>.nil
  | .buf g T k l=>.buf g T k l
  | .loc m=>.loc m
  | .ptr q i=>if q=o then .junk else .ptr q i
  | .arr q k' n=>if q=o then (if k'=k∧n=es.length then .d (.sl k es) else .junk) else .arr q k' n
  | .tup l=>.tup (frzs o k es l)
  | .st l=>.st (frzs o k es l)
  | .fn f l=>.fn f (frzs o k es l)
  | .any P=>.any P
  | .cst c=>.cst c
def frzs (o k:Nat) (es:List DV):List AV→List AV
  | []=>[]
  | x :: l=>frz o k es x :: frzs o k es l
end
def AS.frz (s:AS) (o k:Nat) (es:List DV):AS:=⟨fun t=>Go.Proofs.Ytpbclpopoodklaa.frz o k es (s.tm t),fun q=>if q=o then none else (s.ob q).map (frzs o k es)⟩
theorem frz_tm (s:AS) (o k:Nat) (es:List DV) (t:Nat):(s.frz o k es).tm t=frz o k es (s.tm t):=rfl
theorem frz_ob (s:AS) (o k:Nat) (es:List DV) (q:Nat):(s.frz o k es).ob q=if q=o then none else (s.ob q).map (frzs o k es):=rfl
section
variable {X:Cx} {G:Gh} {s:AS} {a:Act} {w:World}
theorem cvs_append:∀ {l m:List AV} {us:List Value},CVs G w (l ++ m) us→∃ u v,us=u ++ v∧u.length=l.length∧CVs G w l u∧CVs G w m v
  | [],m,us,h=>⟨[],us,rfl,rfl,rfl,h⟩
  | x :: l,m,us,h=>by
    obtain ⟨v,us',rfl,h1,h2⟩:=h
    obtain ⟨u',v',rfl,e,h3,h4⟩:=cvs_append h2
    exact ⟨v :: u',v',rfl,by simp [e],⟨v,u',rfl,h1,h3⟩,h4⟩
theorem cvs_elem {x:DV} {us:List Value} (hl:leaves (dcells x)=true) (h:CVs G w ((dcells x).map .d) us):CX G.C w x us:=by
  have h1:=cvs_leaves hl h
  cases x with
  | agg m=>exact h1
  | _=>obtain ⟨u,v,rfl,h2,h3⟩:=h1;obtain rfl:=h3;simpa using h2
theorem cvs_flat {k:Nat}:∀ {es:List DV} {us:List Value},elemsOK k es=true→CVs G w ((flatD es).map .d) us→CXk G.C w k es us
  | [],us,_,h=>h
  | x :: es,us,he,h=>by
    simp only [elemsOK,List.all_cons,Bool.and_eq_true,beq_iff_eq] at he
    simp only [flatD,List.map_cons,List.flatten_cons,List.map_append] at h
    obtain ⟨u,v,rfl,e,h1,h2⟩:=cvs_append h
    exact ⟨u,v,rfl,cvs_elem he.1.1 h1,by rw [e,List.length_map,he.1.2],cvs_flat he.2 h2⟩
theorem flatD_len {k:Nat}:∀ {es:List DV},elemsOK k es=true→(flatD es).length=es.length*k
  | [],_=>by simp [flatD]
  | x :: es,he=>by
    simp only [elemsOK,List.all_cons,Bool.and_eq_true,beq_iff_eq] at he
    have:=flatD_len (es:=es) (k:=k) he.2
    simp only [flatD,List.map_cons,List.flatten_cons,List.length_append,List.length_cons,he.1.2] at this ⊢
    rw [this,Nat.add_mul];omega
def frzG (G:Gh) (o n:Nat):Gh:=⟨fun b i=>G.C b i∨(b=G.ad o∧i<n),G.hd,G.hT,G.hk,G.ad⟩
theorem stay_frz (G:Gh) (w:World) (o n:Nat):Stay G.C (frzG G o n).C w w:=fun b i h=>⟨.inl h,rfl⟩
mutual
theorem CV.frz {o k:Nat} {es:List DV} (ho:ObOK G w o ((flatD es).map .d)) (he:elemsOK k es=true):∀ (x:AV) (v:Value),CV G w x v→CV (frzG G o (flatD es).length) w (frz o k es x) v
  | .junk,v,_=>trivial
  | .d x,v,hv=>by obtain ⟨us,h1,h2⟩:=hv;exact ⟨us,CX.stay (stay_frz G w o _) x us h1,h2⟩
  | .nil,v,hv=>hv
  | .buf g T k l,v,hv=>by
    obtain ⟨h1,h2,h3,h4⟩:=hv
    exact ⟨h1,h2,h3,CX.stay (stay_frz G w o _) _ _ h4⟩
  | .loc m,v,hv=>by
    obtain ⟨b,q,us,h1,h2,h3⟩:=hv
    exact ⟨b,q,us,h1,CXk.stay (stay_frz G w o _) 1 m us h2,fun i u hu=>⟨.inl (h3 i u hu).1,(h3 i u hu).2⟩⟩
  | .ptr q i,v,hv=>by
    simp only [Go.Proofs.Ytpbclpopoodklaa.frz]
    split
    · trivial
    · exact hv
  | .arr q k' n,v,hv=>by
    simp only [Go.Proofs.Ytpbclpopoodklaa.frz]
    split
    · rename_i e
      subst e
      split
      · rename_i e
        obtain ⟨rfl,rfl⟩:=e
        obtain ⟨c,rfl,h1,h2⟩:=hv
        obtain ⟨g1,g2,us,g3,g4,g5⟩:=ho
        have hk:=cvs_flat he g3
        have hlen:us.length=(flatD es).length:=by rw [g3.len,List.length_map]
        refine cvSl.2 ⟨_,_,c,us,rfl,rfl,CXk.stay (stay_frz G w q _) k' es us hk,by rw [hlen,flatD_len he],h1,h2,fun h=>(by cases h),g4,fun hn=>⟨G.ad q,0,rfl,fun i u hu=>?_⟩⟩
        have hi:=(List.getElem?_eq_some_iff.1 hu).1
        have:=(g5 i u hu).1
        exact ⟨.inr ⟨rfl,by omega⟩,by simpa using this⟩
      · trivial
    · exact hv
  | .tup l,v,hv=>by obtain ⟨vs,h1,h2⟩:=hv;exact ⟨vs,h1,CVs.frz ho he l vs h2⟩
  | .st l,v,hv=>by obtain ⟨vs,h1,h0,h2⟩:=hv;exact ⟨vs,h1,h0,CVs.frz ho he l vs h2⟩
  | .fn f l,v,hv=>by obtain ⟨vs,h1,h2⟩:=hv;exact ⟨vs,h1,CVs.frz ho he l vs h2⟩
  | .any P,v,hv=>by obtain ⟨x,h1,h2,h3⟩:=hv;exact ⟨x,h1,h2,CX.stay (stay_frz G w o _) x _ h3⟩
  | .cst c,v,hv=>hv
theorem CVs.frz {o k:Nat} {es:List DV} (ho:ObOK G w o ((flatD es).map .d)) (he:elemsOK k es=true):∀ (l:List AV) (vs:List Value),CVs G w l vs→CVs (frzG G o (flatD es).length) w (frzs o k es l) vs
  | [],vs,hv=>hv
  | x :: l,vs,hv=>by obtain ⟨v,us,e,h2,h3⟩:=hv;exact ⟨v,us,e,CV.frz ho he x v h2,CVs.frz ho he l us h3⟩
end
theorem RelG.frz {o k:Nat} {es:List DV} (h:RelG X G s a w) (ho:s.ob o=some ((flatD es).map .d)) (he:elemsOK k es=true) (hlt:o<1000000):RelG X (frzG G o (flatD es).length) (s.frz o k es) a w:=by
  have hob:=h.ob o _ ho
  have hsome:s.ob o ≠ none:=by rw [ho];exact fun e=>(by cases e)
  have how:=(h.ow o hsome).1 hlt
  have hsub:∀ q,(s.frz o k es).ob q ≠ none→q ≠ o∧s.ob q ≠ none:=fun q hq=>by
    simp only [frz_ob] at hq
    split at hq
    · exact absurd rfl hq
    · rename_i e
      refine ⟨e,fun e2=>hq ?_⟩
      rw [e2];rfl
  refine ⟨h.fr,h.df,h.n,fun t ht=>CV.frz hob he _ _ (h.tm t ht),fun g=>?_,fun q l hq=>?_,?_,h.d1,fun q q' h1 h2 e=>h.d2 q q' (hsub q h1).2 (hsub q' h2).2 e,fun q g h1=>h.d3 q g (hsub q h1).2,fun q h1=>h.ow q (hsub q h1).2,?_,?_,fun i h1=>h.ln i (hsub _ h1).2,fun b i hc=>.inl (h.c0 b i hc),?_⟩
  · obtain ⟨a0,n0,c0,vs,e1,e2,e3⟩:=h.bf g
    refine ⟨a0,n0,c0,vs,e1,e2,fun b hb i=>⟨fun hc=>?_,fun hci=>.inl ((e3 b hb i).2 hci)⟩⟩
    rcases hc with hc | ⟨hc,_⟩
    · exact (e3 b hb i).1 hc
    · subst hc
      exact absurd (by rw [e1,hb];rfl) (h.d3 o g hsome)
  · simp only [frz_ob] at hq
    split at hq
    · cases hq
    · rename_i e
      cases e2:s.ob q with
      | none=>rw [e2] at hq;cases hq
      | some l' =>
        rw [e2] at hq
        cases hq
        obtain ⟨g1,g2,us,g3,g4,g5⟩:=h.ob q l' e2
        refine ⟨g1,fun i hc=>?_,us,CVs.frz hob he _ _ g3,g4,g5⟩
        rcases hc with hc | ⟨hc,_⟩
        · exact g2 i hc
        · exact e (h.d2 q o (by rw [e2];exact fun e=>(by cases e)) hsome hc)
  · rintro b i (hc | ⟨rfl,_⟩)
    · exact h.cs b i hc
    · exact hob.1
  · rintro b i (hc | ⟨rfl,_⟩) hb
    · exact h.lc b i hc hb
    · omega
  · rintro b i (hc | ⟨rfl,_⟩) hL
    · exact h.nl b i hc hL
    · have:=X.hL _ hL;omega
  · rintro b i (hc | ⟨rfl,hi⟩) hz
    · exact h.uf b i hc hz
    · obtain ⟨g1,g2,us,g3,g4,g5⟩:=hob
      have hlen:us.length=(flatD es).length:=by rw [g3.len,List.length_map]
      exact (g5 i us[i] (List.getElem?_eq_getElem (by omega))).2
end
def plainD:DV→Bool
  | .int _=>true
  | .byte _=>true
  | .bool _=>true
  | .str _=>true
  | _=>false
theorem plain_cx {C C':Nat→Nat→Prop} {w:World} {x:DV} {us:List Value} (hp:plainD x=true) (h:CX C w x us):CX C' w x us:=by cases x <;> first | exact h | cases hp
def unG (G:Gh) (g:Nat):Gh:=⟨fun b i=>G.C b i∧b ≠ g,fun _=>.slice none 0 0,fun _=>0,fun _=>0,fun _=>g⟩
theorem ales_eq {l m:List AV} (h:l=m):ALes l m:=by
  subst h
  induction l with
  | nil=>exact .nil
  | cons x l ih=>exact .cons (.refl x) ih
def keepO (s:AS):List Nat→Option (List (Nat×List AV))
  | []=>some []
  | o :: os=>match s.ob o,keepO s os with
    | some l,some r=>some ((o,l) :: r)
    | _,_=>none
def IsL {α:Type} (x y:α):Prop:=x=y
def keepT (s:AS):List Nat→List (Nat×AV)
  | []=>[]
  | t :: ts=>(t,s.tm t) :: keepT s ts
theorem newA_tm (s:AS) (d:Nat) (l:List AV) (x:AV) (t:Nat):(s.newA d l x).tm t=if t=d then x else scrub (fun _=>true) (fun o=>!(o == d)) (s.tm t):=rfl
theorem newA_ob (s:AS) (d:Nat) (l:List AV) (x:AV) (q:Nat):(s.newA d l x).ob q=if q=d then some (scrubs (fun _=>true) (fun o=>!(o == d)) l) else (s.ob q).map (List.map (scrub (fun _=>true) (fun o=>!(o == d)))):=rfl
theorem ob_les {l m:List AV} (h:ALes l m):∃ m',some l=some m'∧ALes m' m:=⟨l,rfl,h⟩
theorem ob_eq {l m:List AV} (h:l=m):∃ m',some l=some m'∧ALes m' m:=⟨l,rfl,ales_eq h⟩
theorem set_mapd (l:List DV) (r:Nat) (y:DV):(l.map AV.d).set r (.d y)=(l.set r y).map .d:=List.map_set.symm
theorem getD_mapd {l:List DV} {r:Nat} (h:r<l.length):(l.map AV.d).getD r .junk=.d (l.getD r (.bool false)):=by simp [List.getD,h]
theorem toDVs_mapd (b:Bool) (l:List DV):toDVs b (l.map .d)=some l:=by
  induction l with
  | nil=>rfl
  | cons x l ih=>simp [toDVs,ih,toDV]
theorem scrub_mapd (fb fo:Nat→Bool) (l:List DV):List.map (scrub fb fo) (l.map .d)=l.map .d:=by simp [scrub,Function.comp_def]
theorem scrubs_mapd (fb fo:Nat→Bool) (l:List DV):scrubs fb fo (l.map .d)=l.map .d:=by rw [scrubs_map];exact scrub_mapd fb fo l
theorem frzs_mapd (o k:Nat) (es l:List DV):frzs o k es (l.map .d)=l.map .d:=by
  induction l with
  | nil=>rfl
  | cons x l ih=>simp [frzs,frz,ih]
theorem renAs_mapd (ns:List Nat) (d:Nat) (l:List DV):renAs ns d (l.map .d)=l.map .d:=by
  induction l with
  | nil=>rfl
  | cons x l ih=>simp [renAs,renA,ih]
theorem outAs_mapd (ns:List Nat) (d:Nat) (l:List DV):outAs ns d (l.map .d)=l.map .d:=by
  induction l with
  | nil=>rfl
  | cons x l ih=>simp [outAs,outA,ih]
theorem entAs_mapd (l:List DV):entAs (l.map .d)=l.map .d:=by
  induction l with
  | nil=>rfl
  | cons x l ih=>simp [entAs,entA,ih]
theorem zeroRow_d (z:DV) (n:Nat):zeroRow [.d z] n=(List.replicate n z).map .d:=by rw [zeroRow1];simp
theorem set_mapI (l:List Int) (r:Nat) (y:Int):(l.map DV.int).set r (.int y)=(l.set r y).map .int:=List.map_set.symm
theorem rep_mapI (n:Nat) (y:Int):List.replicate n (DV.int y)=(List.replicate n y).map .int:=by simp
attribute [go_sem] sMM keepT sMakeSlice newA_tm newA_ob frz_tm frz_ob frz frzs set_mapd getD_mapd toDVs_mapd scrub_mapd scrubs_mapd
attribute [go_sem] frzs_mapd renAs_mapd outAs_mapd entAs_mapd zeroRow_d rep_mapI set_mapI Nat.mul_one Nat.sub_zero avCells cellsOK keepO
attribute [go_sem] aops_nil aops_cons KA_app astep sMove sPick sBin sBinI sBinB sBinS sBinL sBinG
attribute [go_sem] eqDs eqD sUn sExtract sFieldAddr sIndexAddr sIxD sLoad sLoadO sStore sStoreO sAlloc
attribute [go_sem] sBox sBuildSlice sAppend sLen sCall ev evs ofConst dvOf dvsOf i64B toDV
attribute [go_sem] toDVs addA lenA isStr strSz pickA isCell idxOK elemsOK dcells leaves isAgg'
attribute [go_sem] splice entTm entOb entA entAs lkT lkO put_tm put_ob setOb_tm setOb_ob newB_tm
attribute [go_sem] newB_ob newO_tm newO_ob call_tm call_ob obSel List.getElem?_nil mkS_tm mkS_ob entS_tm entS_ob putD_some
attribute [go_sem] putD_none getDI Int.toNat_natCast scrub scrubs renA renAs tyT finA loadO retA outA
attribute [go_sem] outAs SOKt SOKo List.map_cons List.map_nil List.length_cons List.length_nil List.length_map List.toList_toArray List.all_cons List.all_nil List.take_succ_cons
attribute [go_sem] List.take_zero List.drop_succ_cons List.drop_zero List.getD_cons_zero List.getD_cons_succ List.append_nil List.nil_append List.cons_append List.set_cons_zero List.set_cons_succ Option.bind_some Option.bind_none
attribute [go_sem] Option.map_some Option.map_none if_true if_false cond_true cond_false Bool.not_true Bool.not_false Bool.and_self Bool.and_true Bool.true_and Bool.and_false
attribute [go_sem] Bool.false_and Bool.false_eq_true Bool.true_eq_false beq_self_eq_true ne_eq not_true_eq_false not_false_eq_true true_and and_true decide_true decide_false List.getElem?_cons_zero
attribute [go_sem] List.getElem?_cons_succ wops_nil wops_cons KD_app wOp dOp dGoF_p dGoF_o dGoF_b' dGoF_s dGoF_none dPick
attribute [go_sem] dBin dBinI dBinB dBinS dBinL dBinG dUn dExtract dLen dFieldAddr dIxD dIndexAddr
attribute [go_sem] sSlice sSlc bndA sMkF dSlice dSlc bndD
attribute [go_sem] sNil sCvt sBuild bldC bldD bldS bldR bldK prts dNil dCvt cstN dShr avCells cellsOK
attribute [go_sem] sSlcS sSlcB sIndex dSlcS dSlcB dIndex cnvP dBldM toAV dBldQ dBldI dBuild dMM tyS ldM tyW eq_self dLoad dAlloc dBox dBuildSlice dAppend dStore sclr slA lenB liveO Option.isSome_some
def isIntD:DV→Bool
  | .int _=>true
  | _=>false
def OKT (o:Nat):AV→Prop
  | .junk=>True
  | .d x=>plainD x=true
  | .nil=>True
  | .ptr q _=>q ≠ o
  | .arr q _ _=>q ≠ o
  | .any P=>∀ x,P x→plainD x=true∨∃ l:List Int,x=.sl 1 (l.map .byte)
  | _=>False
theorem cxk_flat {C:Nat→Nat→Prop} {w:World} {k:Nat}:∀ {es:List DV} {us:List Value},elemsOK k es=true→CXk C w k es us→CXk C w 1 (flatD es) us
  | [],us,_,h=>h
  | x :: es,us,he,h=>by
    simp only [elemsOK,List.all_cons,Bool.and_eq_true,beq_iff_eq] at he
    obtain ⟨u,v,rfl,h1,_,h2⟩:=h
    exact CXk.app (cxk_flat he.2 h2) (dcells_ok he.1.1 h1)
theorem ints_cells {C:Nat→Nat→Prop} {w:World} {m:List DV} {us:List Value} (hm:m.all isIntD=true) (h:CXk C w 1 m us):∀ u∈us,∃ z,u=.int .i64 z:=by
  obtain ⟨h1,h2⟩:=CXk.singles.1 h
  intro u hu
  obtain ⟨i,hi,rfl⟩:=List.mem_iff_getElem.1 hu
  have hl:i<m.length:=by omega
  obtain ⟨u',e1,e2⟩:=h2 i m[i] (List.getElem?_eq_getElem hl)
  rw [List.getElem?_eq_getElem hi] at e1
  cases e1
  have:=List.all_eq_true.1 hm m[i] (List.getElem_mem hl)
  cases hx:m[i] <;> rw [hx] at this e2 <;> first | cases this | skip
  obtain ⟨e,_⟩:=e2
  exact ⟨_,by simpa using e⟩
theorem ints_cvs {C:Nat→Nat→Prop} {G':Gh} {w:World}:∀ {m:List DV} {us:List Value},m.all isIntD=true→CXk C w 1 m us→CVs G' w (m.map .d) us
  | [],us,_,h=>h
  | x :: m,us,hm,h=>by
    simp only [List.all_cons,Bool.and_eq_true] at hm
    obtain ⟨u,v,rfl,h1,h2,h3⟩:=h
    obtain ⟨u0,rfl⟩:=List.length_eq_one_iff.1 h2
    refine ⟨u0,v,rfl,?_,ints_cvs hm.2 h3⟩
    cases x with
    | int z =>
      refine ⟨[u0],h1,.inr ⟨fun m e=>?_,rfl⟩⟩
      cases e
    | _=>cases hm.1
def thG (G:Gh) (g o b0:Nat):Gh:=⟨fun b i=>G.C b i∧b ≠ b0,fun h=>if h=g then .slice none 0 0 else G.hd h,G.hT,G.hk,fun q=>if q=o then b0 else G.ad q⟩
theorem OKT.cv {G:Gh} {w:World} {g o b0:Nat} (hn:∀ i u,G.C b0 i→w.cell? ⟨b0,i,none⟩=some u→∃ z,u=.int .i64 z):∀ {x:AV} {v:Value},OKT o x→CV G w x v→CV (thG G g o b0) w x v
  | .junk,_,_,_=>trivial
  | .d x,v,h,hv=>by
    obtain ⟨us,h1,h2⟩:=hv
    exact ⟨us,plain_cx h h1,h2⟩
  | .nil,_,_,hv=>hv
  | .ptr q i,v,h,hv=>by
    simp only [CV,thG] at hv ⊢
    rw [if_neg h];exact hv
  | .arr q k m,v,h,hv=>by
    simp only [CV,thG] at hv ⊢
    rw [if_neg h];exact hv
  | .any P,v,h,hv=>by
    obtain ⟨x,h1,h2,h3⟩:=hv
    refine ⟨x,h1,h2,?_⟩
    rcases h x h1 with hp | ⟨l,rfl⟩
    · exact plain_cx hp h3
    · obtain ⟨a,m,c,us,e1,e2,e3,e4⟩:=h3
      refine ⟨a,m,c,us,e1,e2,?_,e4.1,e4.2.1,e4.2.2.1,e4.2.2.2.1,e4.2.2.2.2.1,fun hm=>?_⟩
      · obtain ⟨q1,q2⟩:=CXk.singles.1 e3
        refine CXk.singles.2 ⟨q1,fun i x hx=>?_⟩
        obtain ⟨u,r1,r2⟩:=q2 i x hx
        refine ⟨u,r1,?_⟩
        obtain ⟨y,_,rfl⟩:=List.mem_map.1 (List.mem_of_getElem? hx)
        exact r2
      · obtain ⟨b,off,ha,hcell⟩:=e4.2.2.2.2.2 hm
        refine ⟨b,off,ha,fun i u hu=>⟨⟨(hcell i u hu).1,?_⟩,(hcell i u hu).2⟩⟩
        rintro rfl
        obtain ⟨z,rfl⟩:=hn _ u (hcell i u hu).1 (hcell i u hu).2
        obtain ⟨q1,q2⟩:=CXk.singles.1 e3
        have hi:=(List.getElem?_eq_some_iff.1 hu).1
        have hl:i<(l.map DV.byte).length:=by omega
        obtain ⟨u',r1,r2⟩:=q2 i _ (List.getElem?_eq_getElem hl)
        rw [hu] at r1
        cases r1
        simp only [List.getElem_map] at r2
        obtain ⟨r2,_⟩:=r2
        simp at r2
theorem OKTs.cv {G:Gh} {w:World} {g o b0:Nat} (hn:∀ i u,G.C b0 i→w.cell? ⟨b0,i,none⟩=some u→∃ z,u=.int .i64 z):∀ {l:List AV} {us:List Value},(∀ x∈l,OKT o x)→CVs G w l us→CVs (thG G g o b0) w l us
  | [],_,_,h=>h
  | x :: l,us,h,hv=>by
    obtain ⟨v,us',e,h1,h2⟩:=hv
    exact ⟨v,us',e,OKT.cv hn (h x (List.mem_cons_self ..)) h1,OKTs.cv hn (fun y hy=>h y (List.mem_cons_of_mem _ hy)) h2⟩
section
variable {ty:TypeId→Option TyI} {P:Cx→Prop} {N:Nat} {s:AS} {K:AS→Prop} {Q:Exit→AS→Prop} {d:Nat} {f:FuncId} {avs args:List AV}
theorem callA {x:AV} (hA:AFn f args [] (fun r os=>r=x∧os=[])) (h:K ((s.call [] d []).put d (renA [] d x))) (hsub:ASubs [] avs args:=by ((repeat (first | exact ASubs.nil | refine ASubs.cons (by first | exact ASub.d _ | exact ASub.dd (dle_wh _ _) | exact ASub.dd (dle_rowsV _) | exact ASub.dd (dle_rowsW _) | exact ASub.dd (dle_relW _ _) | exact ASub.bufd _ _ (dle_rowsV _) | exact ASub.nil _ | exact ASub.nn | exact ASub.buf _ _ _ _ | exact ASub.loc _ | exact ASub.ptr _ _ _ rfl | exact ASub.arr _ _ _ _ rfl | exact ASub.any _ | exact ASub.std rfl (dle_refl _)) ?_));done)) (hlt:d<1000000:=by decide):ACall f avs s (some d) K:=acall1 hA hsub hlt h
theorem callD {x:AV} (hA:AFn f args [] (fun r os=>r=x∧os=[])) (h:K ((s.call [] d []).put d (renA [] d x))) (hsub:ASubs [] avs args:=by ((repeat (first | exact ASubs.nil | refine ASubs.cons (by first | exact ASub.d _ | exact ASub.dd (dle_wh _ _) | exact ASub.dd (dle_rowsV _) | exact ASub.dd (dle_rowsW _) | exact ASub.dd (dle_relW _ _) | exact ASub.bufd _ _ (dle_rowsV _) | exact ASub.nil _ | exact ASub.nn | exact ASub.buf _ _ _ _ | exact ASub.loc _ | exact ASub.ptr _ _ _ rfl | exact ASub.arr _ _ _ _ rfl | exact ASub.any _ | exact ASub.std rfl (dle_refl _)) ?_));done)) (hlt:d<1000000:=by decide) (hob:s.ob d=none:=by (simp (disch:=(first | omega | (simp;omega))) only [go_sem,w64];done)):DCall f avs s (some d) K:=dcall1 hA hsub hlt hob h
theorem callE {R:AV→List (List AV)→Prop} (hA:AFn f args [] R) (h:∀ r os,R r os→os.length≤1∧K ((s.call [] d os).put d (renA [] d r))) (hsub:ASubs [] avs args:=by ((repeat (first | exact ASubs.nil | refine ASubs.cons (by first | exact ASub.d _ | exact ASub.dd (dle_wh _ _) | exact ASub.dd (dle_rowsV _) | exact ASub.dd (dle_rowsW _) | exact ASub.dd (dle_relW _ _) | exact ASub.bufd _ _ (dle_rowsV _) | exact ASub.nil _ | exact ASub.nn | exact ASub.buf _ _ _ _ | exact ASub.loc _ | exact ASub.ptr _ _ _ rfl | exact ASub.arr _ _ _ _ rfl | exact ASub.any _ | exact ASub.std rfl (dle_refl _)) ?_));done)) (hlt:d<1000000:=by decide):ACall f avs s (some d) K:=acall hA hsub hlt h
theorem callF {R:AV→List (List AV)→Prop} (hA:AFn f args [] R) (hne:∃ r os,R r os) (h:∀ r os,R r os→os.length≤1∧K ((s.call [] d os).put d (renA [] d r))) (hsub:ASubs [] avs args:=by ((repeat (first | exact ASubs.nil | refine ASubs.cons (by first | exact ASub.d _ | exact ASub.dd (dle_wh _ _) | exact ASub.dd (dle_rowsV _) | exact ASub.dd (dle_rowsW _) | exact ASub.dd (dle_relW _ _) | exact ASub.bufd _ _ (dle_rowsV _) | exact ASub.nil _ | exact ASub.nn | exact ASub.buf _ _ _ _ | exact ASub.loc _ | exact ASub.ptr _ _ _ rfl | exact ASub.arr _ _ _ _ rfl | exact ASub.any _ | exact ASub.std rfl (dle_refl _)) ?_));done)) (hlt:d<1000000:=by decide) (hob:s.ob d=none:=by (simp (disch:=(first | omega | (simp;omega))) only [go_sem,w64];done)):DCall f avs s (some d) K:=dcall hA hsub hlt hob hne h
theorem sleA {tl:List (Nat×AV)} {ol:List (Nat×List AV)} (h1:SOKt s tl:=by (simp (disch:=(first | omega | (simp;omega))) only [go_sem,w64] <;> (repeat (first | refine And.intro ?_ ?_ | (first | with_reducible exact ALe.refl _ | with_reducible exact ALe.nil _ | with_reducible exact ALe.dd (dle_wh _ _) | with_reducible exact ALe.nl | with_reducible exact ALe.nilw _ | with_reducible exact ALe.bufw _ _ _ _ | with_reducible exact ALe.dd (dle_rel0 _) | with_reducible exact ALe.dd (dle_rowsV _) | with_reducible exact ALe.dd (dle_rowsW _) | with_reducible exact ALe.buf _ _ _ _ | (refine ale_int ?_;first | with_reducible assumption | with_reducible rfl | omega | kernel_rfl | (simp;done) | (simp;omega)) | (refine ale_bool ?_;first | with_reducible assumption | with_reducible rfl | omega | kernel_rfl | (simp;done) | (simp;omega)) | (refine ale_buf ?_;(first | rfl | (simp;done))) | (refine ale_bufd ?_;(first | rfl | (simp;done))) | (refine ale_bufw ?_;(first | rfl | (simp;done))) | (refine ale_sl ?_;(first | rfl | (simp;done))) | (refine ale_arr ?_;first | with_reducible assumption | with_reducible rfl | omega | kernel_rfl | (simp;done) | (simp;omega))) | (first | (refine ob_eq ?_;(first | rfl | (simp;done))) | (refine ob_les ?_;(repeat' (first | exact ALes.nil | refine ALes.cons ?_ ?_ | (first | with_reducible exact ALe.refl _ | with_reducible exact ALe.nil _ | with_reducible exact ALe.dd (dle_wh _ _) | with_reducible exact ALe.nl | with_reducible exact ALe.nilw _ | with_reducible exact ALe.bufw _ _ _ _ | with_reducible exact ALe.dd (dle_rel0 _) | with_reducible exact ALe.dd (dle_rowsV _) | with_reducible exact ALe.dd (dle_rowsW _) | with_reducible exact ALe.buf _ _ _ _ | (refine ale_int ?_;first | with_reducible assumption | with_reducible rfl | omega | kernel_rfl | (simp;done) | (simp;omega)) | (refine ale_bool ?_;first | with_reducible assumption | with_reducible rfl | omega | kernel_rfl | (simp;done) | (simp;omega)) | (refine ale_buf ?_;(first | rfl | (simp;done))) | (refine ale_bufd ?_;(first | rfl | (simp;done))) | (refine ale_bufw ?_;(first | rfl | (simp;done))) | (refine ale_sl ?_;(first | rfl | (simp;done))) | (refine ale_arr ?_;first | with_reducible assumption | with_reducible rfl | omega | kernel_rfl | (simp;done) | (simp;omega)))));done) | (refine ob_eq ?_)))))) (h2:SOKo s ol:=by (simp (disch:=(first | omega | (simp;omega))) only [go_sem,w64] <;> (repeat (first | refine And.intro ?_ ?_ | (first | with_reducible exact ALe.refl _ | with_reducible exact ALe.nil _ | with_reducible exact ALe.dd (dle_wh _ _) | with_reducible exact ALe.nl | with_reducible exact ALe.nilw _ | with_reducible exact ALe.bufw _ _ _ _ | with_reducible exact ALe.dd (dle_rel0 _) | with_reducible exact ALe.dd (dle_rowsV _) | with_reducible exact ALe.dd (dle_rowsW _) | with_reducible exact ALe.buf _ _ _ _ | (refine ale_int ?_;first | with_reducible assumption | with_reducible rfl | omega | kernel_rfl | (simp;done) | (simp;omega)) | (refine ale_bool ?_;first | with_reducible assumption | with_reducible rfl | omega | kernel_rfl | (simp;done) | (simp;omega)) | (refine ale_buf ?_;(first | rfl | (simp;done))) | (refine ale_bufd ?_;(first | rfl | (simp;done))) | (refine ale_bufw ?_;(first | rfl | (simp;done))) | (refine ale_sl ?_;(first | rfl | (simp;done))) | (refine ale_arr ?_;first | with_reducible assumption | with_reducible rfl | omega | kernel_rfl | (simp;done) | (simp;omega))) | (first | (refine ob_eq ?_;(first | rfl | (simp;done))) | (refine ob_les ?_;(repeat' (first | exact ALes.nil | refine ALes.cons ?_ ?_ | (first | with_reducible exact ALe.refl _ | with_reducible exact ALe.nil _ | with_reducible exact ALe.dd (dle_wh _ _) | with_reducible exact ALe.nl | with_reducible exact ALe.nilw _ | with_reducible exact ALe.bufw _ _ _ _ | with_reducible exact ALe.dd (dle_rel0 _) | with_reducible exact ALe.dd (dle_rowsV _) | with_reducible exact ALe.dd (dle_rowsW _) | with_reducible exact ALe.buf _ _ _ _ | (refine ale_int ?_;first | with_reducible assumption | with_reducible rfl | omega | kernel_rfl | (simp;done) | (simp;omega)) | (refine ale_bool ?_;first | with_reducible assumption | with_reducible rfl | omega | kernel_rfl | (simp;done) | (simp;omega)) | (refine ale_buf ?_;(first | rfl | (simp;done))) | (refine ale_bufd ?_;(first | rfl | (simp;done))) | (refine ale_bufw ?_;(first | rfl | (simp;done))) | (refine ale_sl ?_;(first | rfl | (simp;done))) | (refine ale_arr ?_;first | with_reducible assumption | with_reducible rfl | omega | kernel_rfl | (simp;done) | (simp;omega)))));done) | (refine ob_eq ?_)))))):SLe s (mkS tl ol):=sle_mk h1 h2
theorem endA {rv:List ResultVar} {R:AV→List (List AV)→Prop} {e:Exit} {xs:List AV} {r:AV} (hR:R r []) (he:e=.normal∨e=.ret:=by first | exact .inr rfl | exact .inl rfl) (hx:finA ty N s rv=some xs:=by (simp (disch:=(first | omega | (simp;omega))) only [go_sem,w64];rfl)) (h:ALe (outA [] 0 (retA xs)) r:=by (simp (disch:=(first | omega | (simp;omega))) only [go_sem,w64];(repeat' (first | refine ALe.tup ?_ | refine ALe.st ?_ | refine ALes.cons ?_ ?_ | exact ALes.nil | first | with_reducible exact ALe.refl _ | with_reducible exact ALe.nil _ | with_reducible exact ALe.dd (dle_wh _ _) | with_reducible exact ALe.nl | with_reducible exact ALe.nilw _ | with_reducible exact ALe.bufw _ _ _ _ | with_reducible exact ALe.dd (dle_rel0 _) | with_reducible exact ALe.dd (dle_rowsV _) | with_reducible exact ALe.dd (dle_rowsW _) | with_reducible exact ALe.buf _ _ _ _ | (refine ale_int ?_;first | with_reducible assumption | with_reducible rfl | omega | kernel_rfl | (simp;done) | (simp;omega)) | (refine ale_bool ?_;first | with_reducible assumption | with_reducible rfl | omega | kernel_rfl | (simp;done) | (simp;omega)) | (refine ale_buf ?_;(first | rfl | (simp;done))) | (refine ale_bufd ?_;(first | rfl | (simp;done))) | (refine ale_bufw ?_;(first | rfl | (simp;done))) | (refine ale_sl ?_;(first | rfl | (simp;done))) | (refine ale_arr ?_;first | with_reducible assumption | with_reducible rfl | omega | kernel_rfl | (simp;done) | (simp;omega)))))):EndA ty N 0 rv R e s:=end0 0 he hx h hR
theorem endG (g:Nat) {rv:List ResultVar} {R:AV→List (List AV)→Prop} {e:Exit} {xs:List AV} {r:AV} (hR:R r []) (he:e=.normal∨e=.ret:=by first | exact .inr rfl | exact .inl rfl) (hx:finA ty N s rv=some xs:=by (simp (disch:=(first | omega | (simp;omega))) only [go_sem,w64];rfl)) (h:ALe (outA [] g (retA xs)) r:=by (simp (disch:=(first | omega | (simp;omega))) only [go_sem,w64];(repeat' (first | refine ALe.tup ?_ | refine ALe.st ?_ | refine ALes.cons ?_ ?_ | exact ALes.nil | first | with_reducible exact ALe.refl _ | with_reducible exact ALe.nil _ | with_reducible exact ALe.dd (dle_wh _ _) | with_reducible exact ALe.nl | with_reducible exact ALe.nilw _ | with_reducible exact ALe.bufw _ _ _ _ | with_reducible exact ALe.dd (dle_rel0 _) | with_reducible exact ALe.dd (dle_rowsV _) | with_reducible exact ALe.dd (dle_rowsW _) | with_reducible exact ALe.buf _ _ _ _ | (refine ale_int ?_;first | with_reducible assumption | with_reducible rfl | omega | kernel_rfl | (simp;done) | (simp;omega)) | (refine ale_bool ?_;first | with_reducible assumption | with_reducible rfl | omega | kernel_rfl | (simp;done) | (simp;omega)) | (refine ale_buf ?_;(first | rfl | (simp;done))) | (refine ale_bufd ?_;(first | rfl | (simp;done))) | (refine ale_bufw ?_;(first | rfl | (simp;done))) | (refine ale_sl ?_;(first | rfl | (simp;done))) | (refine ale_arr ?_;first | with_reducible assumption | with_reducible rfl | omega | kernel_rfl | (simp;done) | (simp;omega)))))):EndA ty N 0 rv R e s:=end0 g he hx h hR
end
mutual
def CSim (e:Bool):DV→DV→Prop
  | .int _,y=>∃ z,y=.int z
  | .byte x,y=>y=.byte x
  | .bool x,y=>y=.bool x
  | .str x,y=>y=.str x
  | .agg m,y=>∃ m',y=.agg m'∧CSims e m m'
  | .sl k l,y=>∃ l',y=.sl k l'∧(CSims e l l'∨(e=true∧l'=[]))
  | .wh k l,y=>∃ l',y=.wh k l'∧(CSims e l l'∨(e=true∧l'=[]))
  | .nl,y=>y=.nl
  | .hv _,y=>∃ v',y=.hv v'
def CSims (e:Bool):List DV→List DV→Prop
  | [],m=>m=[]
  | x :: l,m=>∃ y m',m=y :: m'∧CSim e x y∧CSims e l m'
end
mutual
def VSim (e:Bool):DV→DV→Prop
  | .int x,y=>y=.int x
  | .byte x,y=>y=.byte x
  | .bool x,y=>y=.bool x
  | .str x,y=>y=.str x
  | .agg m,y=>∃ m',y=.agg m'∧VSims e m m'
  | .sl k l,y=>∃ l',y=.sl k l'∧CSims e l l'
  | .wh k l,y=>∃ l',y=.wh k l'∧CSims e l l'
  | .nl,y=>y=.nl
  | .hv v,y=>y=.hv v
def VSims (e:Bool):List DV→List DV→Prop
  | [],m=>m=[]
  | x :: l,m=>∃ y m',m=y :: m'∧VSim e x y∧VSims e l m'
end
def CellP (e:Bool) (u u':Value):Prop:=u'=u∨(∃ z y,u=.int .i64 z∧u'=.int .i64 y∧I64 y)∨(e=true∧(∃ a n c,u=.slice a n c)∧u'=.slice none 0 0)
def CellsP (e:Bool):List Value→List Value→Prop
  | [],m=>m=[]
  | u :: l,m=>∃ u' m',m=u' :: m'∧CellP e u u'∧CellsP e l m'
theorem CellsP.refl (e:Bool):∀ l:List Value,CellsP e l l
  | []=>rfl
  | u :: l=>⟨u,l,rfl,.inl rfl,CellsP.refl e l⟩
theorem CellsP.len {e:Bool}:∀ {l m:List Value},CellsP e l m→m.length=l.length
  | [],_,h=>by obtain rfl:=h;rfl
  | u :: l,_,h=>by obtain ⟨u',m',rfl,_,h2⟩:=h;simp [CellsP.len h2]
theorem CellsP.split {e:Bool}:∀ {u v m:List Value},CellsP e (u ++ v) m→∃ u' v',m=u' ++ v'∧CellsP e u u'∧CellsP e v v'
  | [],v,m,h=>⟨[],m,rfl,rfl,h⟩
  | x :: u,v,m,h=>by
    obtain ⟨x',m',rfl,h1,h2⟩:=h
    obtain ⟨u',v',rfl,h3,h4⟩:=CellsP.split h2
    exact ⟨x' :: u',v',rfl,⟨x',u',rfl,h1,h3⟩,h4⟩
theorem CellsP.mk {e:Bool}:∀ {l m:List Value},m.length=l.length→(∀ (i:Nat) (u u':Value),l[i]? = some u→m[i]? = some u'→CellP e u u')→CellsP e l m
  | [],m,h,_=>List.eq_nil_of_length_eq_zero (by simpa using h)
  | u :: l,[],h,_=>by simp at h
  | u :: l,u' :: m,h,hh=>⟨u',m,rfl,hh 0 u u' rfl rfl,CellsP.mk (by simpa using h) fun i x x' hx hx'=>hh (i+1) x x' (by simpa using hx) (by simpa using hx')⟩
theorem CellP.one {e:Bool} {u u':Value} (h:CellP e u u') (h1:u.oneCell'=true):u'.oneCell'=true:=by
  rcases h with rfl | ⟨_,_,_,rfl,_⟩ | ⟨_,_,rfl⟩
  · exact h1
  · rfl
  · rfl
section
variable {C:Nat→Nat→Prop} {w w':World} {e:Bool}
def Wr (e:Bool) (C:Nat→Nat→Prop) (w w':World):Prop:=∀ b i u,C b i→w.cell? ⟨b,i,none⟩=some u→∃ u',w'.cell? ⟨b,i,none⟩=some u'∧CellP e u u'
theorem FlatS.wr (hw:Wr e C w w') {a:Option Addr} {n c k:Nat} {vs:List Value} (h:FlatS C w a n c k vs):∃ vs',FlatS C w' a n c k vs'∧CellsP e vs vs':=by
  obtain ⟨h1,h2,h3,h4,h5,h6⟩:=h
  by_cases hn:0<n
  · obtain ⟨b,off,ha,hc⟩:=h6 hn
    have hat:∀ i (hi:i<vs.length),∃ u',w'.cell? ⟨b,off+i,none⟩=some u'∧CellP e vs[i] u':=fun i hi=>hw b (off+i) vs[i] (hc i _ (List.getElem?_eq_getElem hi)).1 (hc i _ (List.getElem?_eq_getElem hi)).2
    refine ⟨(List.range vs.length).map fun i=>(w'.cell? ⟨b,off+i,none⟩).getD undef,⟨by simp [h1],h2,h3,h4,fun u hu=>?_,fun _=>⟨b,off,ha,fun i u hu=>?_⟩⟩,CellsP.mk (by simp) fun i u u' hu hu'=>?_⟩
    · obtain ⟨i,hi,rfl⟩:=List.mem_map.1 hu
      obtain ⟨u',g1,g2⟩:=hat i (by simpa using hi)
      simp only [g1,Option.getD_some]
      exact g2.one (h5 _ (List.getElem_mem _))
    · have hi:i<vs.length:=by have:=(List.getElem?_eq_some_iff.1 hu).1;simpa using this
      obtain ⟨u',g1,g2⟩:=hat i hi
      simp only [List.getElem?_map,List.getElem?_range hi,Option.map_some,g1,Option.getD_some,Option.some.injEq] at hu
      subst hu
      exact ⟨(hc i _ (List.getElem?_eq_getElem hi)).1,g1⟩
    · have hi:i<vs.length:=(List.getElem?_eq_some_iff.1 hu).1
      obtain ⟨u2,g1,g2⟩:=hat i hi
      simp only [List.getElem?_map,List.getElem?_range hi,Option.map_some,g1,Option.getD_some,Option.some.injEq] at hu'
      subst hu'
      rw [List.getElem?_eq_getElem hi] at hu
      cases hu
      exact g2
  · obtain rfl:n=0:=by omega
    obtain rfl:=List.eq_nil_of_length_eq_zero (by omega:vs.length=0)
    exact ⟨[],⟨h1,h2,h3,h4,h5,fun h=>absurd h (Nat.lt_irrefl 0)⟩,rfl⟩
theorem CSims.len:∀ {l m:List DV},CSims e l m→m.length=l.length
  | [],_,h=>by simp only [CSims] at h;subst h;rfl
  | x :: l,_,h=>by simp only [CSims] at h;obtain ⟨y,m',rfl,_,h2⟩:=h;simp [CSims.len h2]
mutual
theorem CX.wr (hw:Wr e C w w'):∀ (x:DV) (us us':List Value),CX C w x us→CellsP e us us'→∃ x',CSim e x x'∧CX C w' x' us'
  | .int x,us,us',h,hm=>by
    obtain ⟨rfl,hx⟩:=h
    obtain ⟨u',m',rfl,h1,rfl⟩:=hm
    rcases h1 with rfl | ⟨z,y,_,rfl,hy⟩ | ⟨_,⟨a,n,c,h2⟩,_⟩
    · exact ⟨.int x,⟨x,rfl⟩,rfl,hx⟩
    · exact ⟨.int y,⟨y,rfl⟩,rfl,hy⟩
    · cases h2
  | .byte x,us,us',h,hm=>by
    obtain ⟨rfl,hx⟩:=h
    obtain ⟨u',m',rfl,h1,rfl⟩:=hm
    rcases h1 with rfl | ⟨z,y,h2,_⟩ | ⟨_,⟨a,n,c,h2⟩,_⟩
    · exact ⟨.byte x,rfl,rfl,hx⟩
    · cases h2
    · cases h2
  | .bool x,us,us',h,hm=>by
    obtain rfl:=h
    obtain ⟨u',m',rfl,h1,rfl⟩:=hm
    rcases h1 with rfl | ⟨z,y,h2,_⟩ | ⟨_,⟨a,n,c,h2⟩,_⟩
    · exact ⟨.bool x,rfl,rfl⟩
    · cases h2
    · cases h2
  | .str x,us,us',h,hm=>by
    obtain rfl:=h
    obtain ⟨u',m',rfl,h1,rfl⟩:=hm
    rcases h1 with rfl | ⟨z,y,h2,_⟩ | ⟨_,⟨a,n,c,h2⟩,_⟩
    · exact ⟨.str x,rfl,rfl⟩
    · cases h2
    · cases h2
  | .agg m,us,us',h,hm=>by
    obtain ⟨m',h1,h2⟩:=CXs.wr hw m us us' h hm
    exact ⟨.agg m',⟨m',rfl,h1⟩,h2⟩
  | .sl k l,us,us',h,hm=>by
    obtain ⟨a,n,c,vs,rfl,h2,h3,h4⟩:=h
    obtain ⟨u',m',rfl,h1,rfl⟩:=hm
    rcases h1 with rfl | ⟨z,y,h5,_⟩ | ⟨he,_,rfl⟩
    · obtain ⟨vs',g1,g2⟩:=h4.wr hw
      obtain ⟨l',g3,g4⟩:=CXk.wr hw k l vs vs' h3 g2
      exact ⟨.sl k l',⟨l',rfl,.inl g3⟩,a,n,c,vs',rfl,by rw [g3.len,h2],g4,g1⟩
    · cases h5
    · exact ⟨.sl k [],⟨[],rfl,.inr ⟨he,rfl⟩⟩,cx_nil _ _ _⟩
  | .wh k l,us,us',h,hm=>by
    obtain ⟨a,n,c,vs,rfl,h2,h3,h4,h6⟩:=h
    obtain ⟨u',m',rfl,h1,rfl⟩:=hm
    rcases h1 with rfl | ⟨z,y,h5,_⟩ | ⟨he,_,rfl⟩
    · obtain ⟨vs',g1,g2⟩:=h4.wr hw
      obtain ⟨l',g3,g4⟩:=CXk.wr hw k l vs vs' h3 g2
      exact ⟨.wh k l',⟨l',rfl,.inl g3⟩,a,n,c,vs',rfl,by rw [g3.len,h2],g4,g1,h6⟩
    · cases h5
    · exact ⟨.wh k [],⟨[],rfl,.inr ⟨he,rfl⟩⟩,cx_whnil _ _ _⟩
  | .nl,us,us',h,hm=>by
    obtain rfl:=h
    obtain ⟨u',m',rfl,h1,rfl⟩:=hm
    rcases h1 with rfl | ⟨z,y,h2,_⟩ | ⟨_,_,rfl⟩
    · exact ⟨.nl,rfl,rfl⟩
    · cases h2
    · exact ⟨.nl,rfl,rfl⟩
  | .hv v,us,us',h,hm=>by
    obtain ⟨rfl,hv⟩:=h
    obtain ⟨u',m',rfl,h1,rfl⟩:=hm
    rcases h1 with rfl | ⟨z,y,_,rfl,hy⟩ | ⟨_,_,rfl⟩
    · exact ⟨.hv _,⟨_,rfl⟩,rfl,hv⟩
    · exact ⟨.hv _,⟨_,rfl⟩,rfl,rfl⟩
    · exact ⟨.hv _,⟨_,rfl⟩,rfl,rfl⟩
theorem CXs.wr (hw:Wr e C w w'):∀ (m:List DV) (us us':List Value),CXs C w m us→CellsP e us us'→∃ m',CSims e m m'∧CXs C w' m' us'
  | [],us,us',h,hm=>by obtain rfl:=h;obtain rfl:=hm;exact ⟨[],rfl,rfl⟩
  | x :: m,us,us',h,hm=>by
    obtain ⟨u,v,rfl,h2,h3⟩:=h
    obtain ⟨u',v',rfl,h4,h5⟩:=hm.split
    obtain ⟨x',g1,g2⟩:=CX.wr hw x u u' h2 h4
    obtain ⟨m',g3,g4⟩:=CXs.wr hw m v v' h3 h5
    exact ⟨x' :: m',⟨x',m',rfl,g1,g3⟩,u',v',rfl,g2,g4⟩
theorem CXk.wr (hw:Wr e C w w') (k:Nat):∀ (m:List DV) (us us':List Value),CXk C w k m us→CellsP e us us'→∃ m',CSims e m m'∧CXk C w' k m' us'
  | [],us,us',h,hm=>by obtain rfl:=h;obtain rfl:=hm;exact ⟨[],rfl,rfl⟩
  | x :: m,us,us',h,hm=>by
    obtain ⟨u,v,rfl,h2,hl,h3⟩:=h
    obtain ⟨u',v',rfl,h4,h5⟩:=hm.split
    obtain ⟨x',g1,g2⟩:=CX.wr hw x u u' h2 h4
    obtain ⟨m',g3,g4⟩:=CXk.wr hw k m v v' h3 h5
    exact ⟨x' :: m',⟨x',m',rfl,g1,g3⟩,u',v',rfl,g2,by rw [h4.len];exact hl,g4⟩
end
theorem sl_wr (hw:Wr e C w w') {k:Nat} {l:List DV} {us:List Value} (h:CX C w (.sl k l) us):∃ l',CSims e l l'∧CX C w' (.sl k l') us:=by
  obtain ⟨a,n,c,vs,rfl,h2,h3,h4⟩:=h
  obtain ⟨vs',g1,g2⟩:=h4.wr hw
  obtain ⟨l',g3,g4⟩:=CXk.wr hw k l vs vs' h3 g2
  exact ⟨l',g3,a,n,c,vs',rfl,by rw [g3.len,h2],g4,g1⟩
theorem wh_wr (hw:Wr e C w w') {k:Nat} {l:List DV} {us:List Value} (h:CX C w (.wh k l) us):∃ l',CSims e l l'∧CX C w' (.wh k l') us:=by
  obtain ⟨a,n,c,vs,rfl,h2,h3,h4,h6⟩:=h
  obtain ⟨vs',g1,g2⟩:=h4.wr hw
  obtain ⟨l',g3,g4⟩:=CXk.wr hw k l vs vs' h3 g2
  exact ⟨l',g3,a,n,c,vs',rfl,by rw [g3.len,h2],g4,g1,h6⟩
mutual
theorem CX.wrV (hw:Wr e C w w'):∀ (x:DV) (us:List Value),CX C w x us→∃ x',VSim e x x'∧CX C w' x' us
  | .int x,us,h=>⟨.int x,rfl,h⟩
  | .byte x,us,h=>⟨.byte x,rfl,h⟩
  | .bool x,us,h=>⟨.bool x,rfl,h⟩
  | .str x,us,h=>⟨.str x,rfl,h⟩
  | .agg m,us,h=>by
    obtain ⟨m',h1,h2⟩:=CXs.wrV hw m us h
    exact ⟨.agg m',⟨m',rfl,h1⟩,h2⟩
  | .sl k l,us,h=>by
    obtain ⟨l',g1,g2⟩:=sl_wr hw h
    exact ⟨.sl k l',⟨l',rfl,g1⟩,g2⟩
  | .wh k l,us,h=>by
    obtain ⟨l',g1,g2⟩:=wh_wr hw h
    exact ⟨.wh k l',⟨l',rfl,g1⟩,g2⟩
  | .nl,us,h=>⟨.nl,rfl,h⟩
  | .hv v,us,h=>⟨.hv v,rfl,h⟩
theorem CXs.wrV (hw:Wr e C w w'):∀ (m:List DV) (us:List Value),CXs C w m us→∃ m',VSims e m m'∧CXs C w' m' us
  | [],us,h=>⟨[],rfl,h⟩
  | x :: m,us,h=>by
    obtain ⟨u,v,rfl,h2,h3⟩:=h
    obtain ⟨x',g1,g2⟩:=CX.wrV hw x u h2
    obtain ⟨m',g3,g4⟩:=CXs.wrV hw m v h3
    exact ⟨x' :: m',⟨x',m',rfl,g1,g3⟩,u,v,rfl,g2,g4⟩
end
theorem VSim.agg {x y:DV} (h:VSim e x y):(∀ m,x ≠ .agg m)→∀ m,y ≠ .agg m:=by
  intro hx m hy
  subst hy
  cases x with
  | agg m'=>exact hx m' rfl
  | int _=>cases h
  | byte _=>cases h
  | bool _=>cases h
  | str _=>cases h
  | sl _ _=>obtain ⟨l',h1,_⟩:=h;cases h1
  | wh _ _=>obtain ⟨l',h1,_⟩:=h;cases h1
  | nl=>cases h
  | hv _=>cases h
end
mutual
def ASim (e:Bool):AV→AV→Prop
  | .junk,y=>y=.junk
  | .d x,y=>∃ x',y=.d x'∧VSim e x x'
  | .nil,y=>y=.nil
  | .buf g T k l,y=>∃ l',y=.buf g T k l'∧CSims e l l'
  | .loc l,y=>∃ l',y=.loc l'∧CSims e l l'
  | .ptr o i,y=>y=.ptr o i
  | .arr o k n,y=>y=.arr o k n
  | .tup l,y=>∃ l',y=.tup l'∧ASims e l l'
  | .st l,y=>∃ l',y=.st l'∧ASims e l l'
  | .fn f l,y=>∃ l',y=.fn f l'∧ASims e l l'
  | .any P,y=>y=.any (fun x'=>∃ x,P x∧VSim e x x')
  | .cst c,y=>y=.cst c
def ASims (e:Bool):List AV→List AV→Prop
  | [],m=>m=[]
  | x :: l,m=>∃ y m',m=y :: m'∧ASim e x y∧ASims e l m'
end
mutual
theorem CSim.refl (e:Bool):∀ x:DV,CSim e x x
  | .int z=>⟨z,rfl⟩
  | .byte _=>rfl
  | .bool _=>rfl
  | .str _=>rfl
  | .agg m=>⟨m,rfl,CSims.refl e m⟩
  | .sl _ l=>⟨l,rfl,.inl (CSims.refl e l)⟩
  | .wh _ l=>⟨l,rfl,.inl (CSims.refl e l)⟩
  | .nl=>rfl
  | .hv v=>⟨v,rfl⟩
theorem CSims.refl (e:Bool):∀ l:List DV,CSims e l l
  | []=>rfl
  | x :: l=>⟨x,l,rfl,CSim.refl e x,CSims.refl e l⟩
end
mutual
theorem VSim.refl (e:Bool):∀ x:DV,VSim e x x
  | .int _=>rfl
  | .byte _=>rfl
  | .bool _=>rfl
  | .str _=>rfl
  | .agg m=>⟨m,rfl,VSims.refl e m⟩
  | .sl _ l=>⟨l,rfl,CSims.refl e l⟩
  | .wh _ l=>⟨l,rfl,CSims.refl e l⟩
  | .nl=>rfl
  | .hv _=>rfl
theorem VSims.refl (e:Bool):∀ l:List DV,VSims e l l
  | []=>rfl
  | x :: l=>⟨x,l,rfl,VSim.refl e x,VSims.refl e l⟩
end
mutual
theorem ASim.ex {e:Bool}:∀ x:AV,∃ x',ASim e x x'
  | .junk=>⟨_,rfl⟩
  | .d x=>⟨_,x,rfl,VSim.refl e x⟩
  | .nil=>⟨_,rfl⟩
  | .buf _ _ _ l=>⟨_,l,rfl,CSims.refl e l⟩
  | .loc l=>⟨_,l,rfl,CSims.refl e l⟩
  | .ptr _ _=>⟨_,rfl⟩
  | .arr _ _ _=>⟨_,rfl⟩
  | .tup l=>by
    obtain ⟨l',h⟩:=ASims.ex (e:=e) l
    exact ⟨_,l',rfl,h⟩
  | .st l=>by
    obtain ⟨l',h⟩:=ASims.ex (e:=e) l
    exact ⟨_,l',rfl,h⟩
  | .fn _ l=>by
    obtain ⟨l',h⟩:=ASims.ex (e:=e) l
    exact ⟨_,l',rfl,h⟩
  | .any _=>⟨_,rfl⟩
  | .cst _=>⟨_,rfl⟩
theorem ASims.ex {e:Bool}:∀ l:List AV,∃ l',ASims e l l'
  | []=>⟨[],rfl⟩
  | x :: l=>by
    obtain ⟨x',h1⟩:=ASim.ex (e:=e) x
    obtain ⟨l',h2⟩:=ASims.ex (e:=e) l
    exact ⟨x' :: l',x',l',rfl,h1,h2⟩
end
section
variable {G:Gh} {w w':World} {e:Bool}
mutual
theorem CV.wr (hw:Wr e G.C w w'):∀ (x:AV) (v:Value),CV G w x v→∃ x',ASim e x x'∧CV G w' x' v
  | .junk,v,_=>⟨.junk,rfl,trivial⟩
  | .d x,v,h=>by
    obtain ⟨us,h1,h2⟩:=h
    obtain ⟨x',g1,g2⟩:=CX.wrV hw x us h1
    refine ⟨.d x',⟨x',rfl,g1⟩,us,g2,?_⟩
    rcases h2 with ⟨⟨m,rfl⟩,h3⟩ | ⟨h3,h4⟩
    · obtain ⟨m',rfl,_⟩:=g1
      exact .inl ⟨⟨m',rfl⟩,h3⟩
    · exact .inr ⟨g1.agg h3,h4⟩
  | .nil,v,h=>⟨.nil,rfl,h⟩
  | .buf g T k l,v,h=>by
    obtain ⟨h1,h2,h3,h4⟩:=h
    obtain ⟨l',g1,g2⟩:=wh_wr hw h4
    exact ⟨.buf g T k l',⟨l',rfl,g1⟩,h1,h2,h3,g2⟩
  | .loc m,v,h=>by
    obtain ⟨b,o,us,rfl,h2,h3⟩:=h
    have hat:∀ i (hi:i<us.length),∃ u',w'.cell? ⟨b,o+i,none⟩=some u'∧CellP e us[i] u':=fun i hi=>hw b (o+i) us[i] (h3 i _ (List.getElem?_eq_getElem hi)).1 (h3 i _ (List.getElem?_eq_getElem hi)).2
    obtain ⟨m',g1,g2⟩:=CXk.wr hw 1 m us ((List.range us.length).map fun i=>(w'.cell? ⟨b,o+i,none⟩).getD undef) h2 (CellsP.mk (by simp) fun i u u' hu hu'=>by
      have hi:i<us.length:=(List.getElem?_eq_some_iff.1 hu).1
      obtain ⟨u2,g1,g2⟩:=hat i hi
      simp only [List.getElem?_map,List.getElem?_range hi,Option.map_some,g1,Option.getD_some,Option.some.injEq] at hu'
      subst hu'
      rw [List.getElem?_eq_getElem hi] at hu
      cases hu
      exact g2)
    refine ⟨.loc m',⟨m',rfl,g1⟩,b,o,_,rfl,g2,fun i u hu=>?_⟩
    have hi:i<us.length:=by have:=(List.getElem?_eq_some_iff.1 hu).1;simpa using this
    obtain ⟨u2,g3,g4⟩:=hat i hi
    simp only [List.getElem?_map,List.getElem?_range hi,Option.map_some,g3,Option.getD_some,Option.some.injEq] at hu
    subst hu
    exact ⟨(h3 i _ (List.getElem?_eq_getElem hi)).1,g3⟩
  | .ptr o i,v,h=>⟨.ptr o i,rfl,h⟩
  | .arr o k n,v,h=>⟨.arr o k n,rfl,h⟩
  | .tup l,v,h=>by
    obtain ⟨vs,h1,h2⟩:=h
    obtain ⟨l',g1,g2⟩:=CVs.wr hw l vs h2
    exact ⟨.tup l',⟨l',rfl,g1⟩,vs,h1,g2⟩
  | .st l,v,h=>by
    obtain ⟨vs,h1,h0,h2⟩:=h
    obtain ⟨l',g1,g2⟩:=CVs.wr hw l vs h2
    exact ⟨.st l',⟨l',rfl,g1⟩,vs,h1,h0,g2⟩
  | .fn f l,v,h=>by
    obtain ⟨vs,h1,h2⟩:=h
    obtain ⟨l',g1,g2⟩:=CVs.wr hw l vs h2
    exact ⟨.fn f l',⟨l',rfl,g1⟩,vs,h1,g2⟩
  | .any P,v,h=>by
    obtain ⟨x,h1,h2,h3⟩:=h
    obtain ⟨x',g1,g2⟩:=CX.wrV hw x _ h3
    exact ⟨_,rfl,x',⟨x,h1,g1⟩,g1.agg h2,g2⟩
  | .cst c,v,h=>⟨.cst c,rfl,h⟩
theorem CVs.wr (hw:Wr e G.C w w'):∀ (l:List AV) (vs:List Value),CVs G w l vs→∃ l',ASims e l l'∧CVs G w' l' vs
  | [],vs,h=>⟨[],rfl,h⟩
  | x :: l,vs,h=>by
    obtain ⟨v,us,rfl,h2,h3⟩:=h
    obtain ⟨x',g1,g2⟩:=CV.wr hw x v h2
    obtain ⟨l',g3,g4⟩:=CVs.wr hw l us h3
    exact ⟨x' :: l',⟨x',l',rfl,g1,g3⟩,v,us,rfl,g2,g4⟩
end
end
def SSim (e:Bool) (s s':AS):Prop:=(∀ t,ASim e (s.tm t) (s'.tm t))∧∀ o,(s.ob o=none∧s'.ob o=none)∨∃ l l',s.ob o=some l∧s'.ob o=some l'∧ASims e l l'
section
variable {X:Cx} {G:Gh} {s:AS} {a:Act} {w:World}
end
def LStep (P:Cx→Prop) (N:Nat) (o:Oper) (s:AS) (K:AS→Prop):Prop:=∀ (X:Cx) (G:Gh) (a:Act) (w:World),X.N=N→P X→RelG X G s a w→Snd o X a w K
theorem LStep.mono {P:Cx→Prop} {N:Nat} {o:Oper} {s:AS} {K K':AS→Prop} (h:LStep P N o s K) (hk:∀ s,K s→K' s):LStep P N o s K' :=
  fun X G a w hN hP hr nx Q hn=>h X G a w hN hP hr nx Q fun s' a' w' h1 h2=>hn s' a' w' (hk s' h1) h2
theorem aops_okP {X:Cx} {ty:TypeId→Option TyI} (ht:TabOK ty) {ops:List Oper} {Q:Exit→Act→World→Prop} {K:AS→Prop} {tl:List Oper} (hQ:∀ s a w,K s→Rel X s a w→wpList Try.prog ops.toArray Q tl a w) :
    ∀ (l:List Oper) (s:AS) (a:Act) (w:World),aops ty X.N ops l s K→Rel X s a w→wpList Try.prog ops.toArray Q (l ++ tl) a w
  | [],s,a,w,h,hr=>hQ s a w h hr
  | o :: rest,s,a,w,h,⟨G,hr⟩=>by
    have go:astep ty X.N o s (fun s'=>aops ty X.N ops rest s' K)→o.wp Try.prog a w (wpList Try.prog ops.toArray Q (rest ++ tl)) Q:=fun h1 =>
      astep_ok ht hr h1 _ Q (fun s' a' w' h2 h3=>aops_okP ht hQ rest s' a' w' h2 h3)
    unfold aops at h
    rw [List.cons_append]
    unfold wpList
    split at h
    · rename_i hg
      rw [if_pos (by simp [Region.wanted,hg])]
      exact .inl (go h)
    · rename_i j want hg
      split at h
      · rename_i t ht'
        obtain ⟨hlt,h⟩:=h
        split at h
        · rename_i b hb
          have hv:=hr.tm t hlt
          rw [hb] at hv
          have hv':=cvBool.1 hv
          have hy:yielded ops.toArray a.tmps j=some b:=by
            have h1:(ops.toArray[j]?).bind (·.dst)=some t:=by simpa using ht'
            have h2:a.tmps[t]? = some (.bool b):=by
              have h3:t<a.tmps.size:=by rw [hr.n];exact hlt
              rw [Array.getD_eq_getD_getElem?] at hv'
              rw [Array.getElem?_eq_getElem h3] at hv' ⊢
              simpa using hv'
            simp only [yielded,h1,Option.bind_some,h2]
          split at h
          · rename_i e
            rw [if_pos (by simp [Region.wanted,hg,hy,e])]
            exact .inl (go h)
          · rename_i e
            rw [if_neg (by simp [Region.wanted,hg,hy,e])]
            exact aops_okP ht hQ rest _ _ w h ⟨G,hr.putD o.dst rfl⟩
        · rename_i c hb
          obtain ⟨rfl,h⟩:=h
          have hv:=hr.tm t hlt
          rw [hb] at hv
          have hv':a.tmps.getD t undef=undef:=hv
          have hy:yielded ops.toArray a.tmps j=none:=by
            have h1:(ops.toArray[j]?).bind (·.dst)=some t:=by simpa using ht'
            have h3:t<a.tmps.size:=by rw [hr.n];exact hlt
            have h2:a.tmps[t]? = some undef:=by
              rw [Array.getD_eq_getD_getElem?] at hv'
              rw [Array.getElem?_eq_getElem h3] at hv' ⊢
              simpa using hv'
            simp only [yielded,h1,Option.bind_some,h2]
            rfl
          rw [if_neg (by simp [Region.wanted,hg,hy])]
          exact aops_okP ht hQ rest _ _ w h ⟨G,hr.putD o.dst rfl⟩
        · exact h.elim
      · exact h.elim
section
variable {P:Cx→Prop} {N:Nat} {Q:Exit→AS→Prop} {s:AS}
theorem awp_regionX {ty:TypeId→Option TyI} (ht:TabOK ty) {id:Nat} {l:List Oper} (i:Nat) {o:Oper} (hi:l[i]? = some o) (hg:o.guard=none) (h:∀ K:AS→Prop,(∀ s,Q .normal s→K s)→aops ty N l (l.take i) s (fun s1=>LStep P N o s1 (fun s2=>aops ty N l (l.drop (i+1)) s2 K))):AWp P N (.region id l.toArray false) Q s:=by
  intro X a w hN hP hr
  subst hN
  refine wp_region_lit ?_
  have hs:l=l.take i ++ (o :: l.drop (i+1)):=by
    obtain ⟨h1,h2⟩:=List.getElem?_eq_some_iff.1 hi
    rw [← h2,List.getElem_cons_drop h1,List.take_append_drop]
  have key:=aops_okP (X:=X) ht (ops:=l) (Q:=fun e a' w'=>∃ s',Q e s'∧Rel X s' a' w') (tl:=o :: l.drop (i+1)) (K:=fun s1=>LStep P X.N o s1 (fun s2=>aops ty X.N l (l.drop (i+1)) s2 (Q .normal))) (fun s1 a1 w1 h1 h2=>by
    obtain ⟨G,h2⟩:=h2
    unfold wpList
    rw [if_pos (by simp [Region.wanted,hg])]
    refine .inl (h1 X G a1 w1 rfl hP h2 _ _ fun s2 a2 w2 h3 h4=>?_)
    exact aops_ok (X:=X) ht (Q:=fun e a' w'=>∃ s',Q e s'∧Rel X s' a' w') (fun s' _ _ h1 h2=>⟨s',h1,h2⟩) _ s2 a2 w2 h3 h4) (l.take i) s a w (h _ fun _ h=>h) hr
  rw [← hs] at key
  exact key
end
def pokeB (e:Bool):List DV→List DV→Bool
  | _,[]=>true
  | .int _ :: l,.int _ :: m=>pokeB e l m
  | .sl _ _ :: l,.nl :: m=>e && pokeB e l m
  | .wh _ _ :: l,.nl :: m=>e && pokeB e l m
  | _,_=>false
section
variable {C:Nat→Nat→Prop} {w:World} {e:Bool}
end
mutual
def renA2 (ns:List Nat) (d e:Nat):AV→AV
  | .junk=>.junk
  | .d x=>.d x
  | .nil=>.nil
  | .buf g T k l=>if g=0 then .buf d T k l else if g=1 then .buf e T k l else .d (.sl k l)
  | .loc m=>.loc m
  | .ptr i j=>if i<ns.length then .ptr (ns.getD i 0) j else if i=ns.length then .ptr d j else .junk
  | .arr i k n=>if i<ns.length then .arr (ns.getD i 0) k n else if i=ns.length then .arr d k n else .junk
  | .tup l=>.tup (renAs2 ns d e l)
  | .st l=>.st (renAs2 ns d e l)
  | .fn f l=>.fn f (renAs2 ns d e l)
  | .any P=>.any P
  | .cst c=>.cst c
def renAs2 (ns:List Nat) (d e:Nat):List AV→List AV
  | []=>[]
  | x :: l=>renA2 ns d e x :: renAs2 ns d e l
end
structure RenG2 (ns:List Nat) (d e:Nat) (G' G'':Gh) (w':World):Prop where
  st:Stay G'.C G''.C w' w'
  hd:G''.hd d=G'.hd 0∧G''.hT d=G'.hT 0∧G''.hk d=G'.hk 0
  he:G''.hd e=G'.hd 1∧G''.hT e=G'.hT 1∧G''.hk e=G'.hk 1
  ad:∀ i,i<ns.length→G''.ad (ns.getD i 0)=G'.ad i
  an:G''.ad d=G'.ad ns.length
section
variable {X:Cx} {G:Gh} {s:AS} {a:Act} {w:World}
end
mutual
def outA2 (nl:List Nat) (g g1:Nat):AV→AV
  | .junk=>.junk
  | .d x=>.d x
  | .nil=>.nil
  | .buf g' T k l=>if g'=g then .buf 0 T k l else if g'=g1 then .buf 1 T k l else .d (.sl k l)
  | .loc m=>.loc m
  | .ptr o j=>match nl.idxOf? o with
    | some i=>.ptr i j
    | none=>.junk
  | .arr o k n=>match nl.idxOf? o with
    | some i=>.arr i k n
    | none=>.junk
  | .tup l=>.tup (outAs2 nl g g1 l)
  | .st l=>.st (outAs2 nl g g1 l)
  | .fn f l=>.fn f (outAs2 nl g g1 l)
  | .any P=>.any P
  | .cst c=>.cst c
def outAs2 (nl:List Nat) (g g1:Nat):List AV→List AV
  | []=>[]
  | x :: l=>outA2 nl g g1 x :: outAs2 nl g g1 l
end
def outG2 (G:Gh) (nl:List Nat) (g g1:Nat):Gh:=⟨G.C,fun g'=>if g'=0 then G.hd g else if g'=1 then G.hd g1 else .slice none 0 0,fun g'=>if g'=0 then G.hT g else if g'=1 then G.hT g1 else 0,fun g'=>if g'=0 then G.hk g else if g'=1 then G.hk g1 else 0,fun i=>G.ad (nl.getD i 0)⟩
def obsOut2 (s:AS) (nl:List Nat) (g g1:Nat):List Nat→Option (List (List AV))
  | []=>some []
  | n :: l=>match s.ob n,obsOut2 s nl g g1 l with
    | some c,some os=>some (outAs2 nl g g1 c :: os)
    | _,_=>none
def EndA2 (ty:TypeId→Option TyI) (N n:Nat) (rv:List ResultVar) (R:AV→List (List AV)→Prop):Exit→AS→Prop:=fun e s=>(e=.normal∨e=.ret) ∧
  ∃ more g g1 xs os,g ≠ g1∧finA ty N s rv=some xs∧(lentN n ++ more).Nodup∧(∀ o∈more,o<1000000)∧obsOut2 s (lentN n ++ more) g g1 (lentN n ++ more)=some os∧∃ r,ALe (outA2 (lentN n ++ more) g g1 (retA xs)) r∧R r os
def memQ:Nat→List Nat→Bool
  | _,[]=>false
  | q,a :: l=>if q=a then true else memQ q l
def outQ (Qs:List Nat):AV→Bool
  | .ptr q _=>!memQ q Qs
  | _=>true
def inQ (Qs:List Nat):AV→Bool
  | .ptr q _=>memQ q Qs
  | _=>false
def CQ (N:Nat) (Qs:List Nat) (o:Op) (s:AS):Bool:=match o with
  | .load _ x=>outQ Qs (ev N s x)
  | .store _ y _=>inQ Qs (ev N s y)
  | _=>true
section
variable {fb fo:Nat→Bool} {Qs:List Nat}
theorem outQ_scr (h:∀ q,memQ q Qs=true→fo q=true) (x:AV):outQ Qs (scrub fb fo x)=outQ Qs x:=by
  cases x with
  | ptr q i =>
    simp only [scrub]
    split
    · rfl
    · rename_i hf
      simp only [outQ]
      cases hm:memQ q Qs with
      | true=>exact absurd (h q hm) hf
      | false=>rfl
  | _=>simp only [scrub] <;> first | rfl | (split <;> rfl)
theorem inQ_scr (h:∀ q,memQ q Qs=true→fo q=true) (x:AV):inQ Qs (scrub fb fo x)=inQ Qs x:=by
  cases x with
  | ptr q i =>
    simp only [scrub]
    split
    · rfl
    · rename_i hf
      simp only [inQ]
      cases hm:memQ q Qs with
      | true=>exact absurd (h q hm) hf
      | false=>rfl
  | _=>simp only [scrub] <;> first | rfl | (split <;> rfl)
end
section
variable {ty:TypeId→Option TyI} {N:Nat} {ops:List Oper} {o p q:Oper} {s:AS} {V:Eff→Prop} {e0:Eff} {d0:Option Nat} {Qs:List Nat} {K:AS→Prop} {fp fq:List Nat}
theorem CQ_app (hr:∀ t∈rdOp o.op,d0 ≠ some t) (hk:∀ q,memQ q Qs=true→e0.ko q=true):CQ N Qs o.op (e0.app d0 s)=CQ N Qs o.op s:=by
  unfold CQ
  split
  · rename_i T x ho
    rw [ho] at hr
    rw [app_ev (rd_ne hr x (by simp)),outQ_scr hk]
  · rename_i T x y ho
    rw [ho] at hr
    rw [app_ev (rd_ne hr x (by simp)),inQ_scr hk]
  · rfl
theorem OSG.koQ (h:OSG ty N ops o s V) {e:Eff} (he:V e) (hd:∀ d,o.dst=some d→memQ d Qs=false):∀ q,memQ q Qs=true→e.ko q=true:=by
  intro q hq
  have hn:e.no ≠ some q:=by
    intro hn
    by_cases h3:clsOp o.op=3
    · rcases h.sto h3 he with rfl | ⟨_,_,_,rfl,_,_⟩
      · cases hn
      · cases hn
    · have:=hd q ((h.wf h3 he).2.1 q hn).1
      rw [hq] at this;cases this
  simp only [Eff.ko,Bool.not_eq_true',beq_eq_false_iff_ne]
  exact hn
theorem OSG.stoQ (h:OSG ty N ops o s V) (hc:clsOp o.op=3) {e:Eff} (he:V e) (hQ:CQ N Qs o.op s=true):(e=pE .junk)∨∃ q l l0,e=sE q l∧s.ob q=some l0∧o.dst=none∧memQ q Qs=true:=by
  have hOS:OS ty N o s V→∃ q l l0,e=sE q l∧s.ob q=some l0∧o.dst=none∧memQ q Qs=true:=fun a=>by
    unfold OS at a
    rw [if_neg (by omega)] at a
    obtain ⟨c,f,h1,hcc,rfl⟩:=a
    obtain rfl:=he
    unfold dOp at h1
    split at h1 <;> first | (rename_i ho;rw [ho] at hc;simp [clsOp] at hc;done) | skip
    · rename_i T p x ho
      rw [ho] at hQ
      unfold dStore at h1
      split at h1
      · rename_i i hd hi
        split at h1
        · rename_i q r hp
          have hm:memQ q Qs=true:=by simpa [CQ,inQ,hp] using hQ
          split at h1
          · rename_i l hob
            (repeat' split at h1) <;> first | (cases h1;exact ⟨q,_,l,rfl,hob,hd,hm⟩) | cases h1
          · cases h1
        · cases h1
      · cases h1
    · rename_i c1 ho
      rw [ho] at hc
      simp only [clsOp] at hc
      split at hc <;> omega
    · cases h1
  unfold OSG at h
  split at h
  · exact .inr (hOS h)
  · rename_i j want hg
    obtain ⟨t,b,_,_,_,h4,h5⟩:=h
    by_cases e1:b=want
    · exact .inr (hOS (h4 e1))
    · have:=h5 e1
      subst this
      exact .inl he
theorem cls1 {op:Op} (h:clsOp op=1):∃ T x,op=.load T x:=by
  unfold clsOp at h
  split at h <;> first | (cases h;done) | exact ⟨_,_,rfl⟩ | (split at h <;> cases h)
theorem OSG.stL {s':AS} (h:OSG ty N ops o s V) (hc:clsOp o.op=1) (h1:s'.tm=s.tm) (h2:∀ T x q i,o.op=.load T x→ev N s x=.ptr q i→s'.ob q=s.ob q):OSG ty N ops o s' V:=by
  have hev:∀ x,ev N s' x=ev N s x:=fun x=>by cases x <;> simp only [ev,h1]
  obtain ⟨T,x,ho⟩:=cls1 hc
  have hdo:dOp ty N o s'=dOp ty N o s:=by
    unfold dOp
    rw [ho]
    simp only [hev]
    have h3:=h2 T x
    generalize ev N s x=v at h3
    unfold dLoad
    split
    · cases v with
      | ptr q r=>simp only [h3 q r ho rfl]
      | _=>rfl
    · rfl
  have hOS:OS ty N o s V→OS ty N o s' V:=fun a=>by
    unfold OS at a ⊢
    rw [if_neg (by omega)] at a ⊢
    rw [hdo];exact a
  unfold OSG at h ⊢
  split at h
  · exact hOS h
  · obtain ⟨t,b,g1,g2,g3,g4,g5⟩:=h
    exact ⟨t,b,g1,g2,by rw [h1];exact g3,fun e=>hOS (g4 e),g5⟩
theorem plain1 (h:OSG ty N ops o s V) (hc:clsOp o.op≤1) {e:Eff} (he:V e):e.sq=none∧e.nb=none∧e.no=none:=by
  have hw:=h.wf (by omega) he
  exact ⟨hw.1,hw.2.2 hc⟩
structure IndC (ops:List Oper) (fp fq:List Nat) (p q:Oper):Prop where
  d:∀ t,p.dst=some t→q.dst ≠ some t
  rq:∀ t∈rdG ops q,p.dst ≠ some t
  rp:∀ t∈rdG ops p,q.dst ≠ some t
  c4:¬ (clsOp p.op=4∧clsOp q.op=4)
  c3:clsOp p.op=3→clsOp q.op≤1
  c3':clsOp q.op=3→clsOp p.op≤1
  fp:clsOp q.op=2∨clsOp q.op=4→∀ t,q.dst=some t→t∈fp
  fq:clsOp p.op=2∨clsOp p.op=4→∀ t,p.dst=some t→t∈fq
theorem ev_setOb {q0:Nat} {l:List AV} (x:Operand):ev N (s.setOb q0 (some l)) x=ev N s x:=by cases x <;> rfl
theorem outQ_ptr {x:AV} {q i:Nat} (h:outQ Qs x=true) (e:x=.ptr q i):memQ q Qs=false:=by
  subst e;simpa [outQ] using h
theorem swapL_p3 (ht:TabOK ty) (h:IndC ops fp fq p q) (h3:clsOp p.op=3) (hq0:clsOp q.op=1) (hCp:CQ N Qs p.op s=true) (hCq:CQ N Qs q.op s=true) (hs:stepD ty N ops fp p s (fun s1=>stepD ty N ops fq q s1 K)):stepD ty N ops fq q s (fun s2=>stepD ty N ops fp p s2 K):=by
  obtain ⟨Vp,hp,⟨es,hes⟩,hall⟩:=hs
  obtain ⟨hnb,Vq,hq,⟨eq,heq⟩,hall2⟩:=hall es hes
  have hone:=fun e0 h0=>hp.one (by omega) (e:=e0) (e':=es) h0 hes
  rcases hp.stoQ h3 hes hCp with rfl | ⟨q0,l,l0,rfl,hob,hdst,hmq⟩
  · obtain ⟨V',k1,k2,k3,k4⟩:=OSG.bwd ht hq h.rq ⟨rfl,fun d hd=>(by cases hd)⟩ (fun hc=>by omega) (fun hc=>by omega)
    refine ⟨V',k1,k3 ⟨eq,heq⟩,fun e he=>?_⟩
    have hpl:=plain1 k1 (by omega) he
    refine ⟨fun g hg=>(by rw [hpl.2.1] at hg;cases hg),fun e'=>∃ e0,Vp e0∧e'=e0.scr e.kb e.ko,?_,⟨_,_,hes,rfl⟩,?_⟩
    · exact OSG.fwd ht hp h.rp ⟨hpl.1,fun d hd=>by rw [hpl.2.2] at hd;cases hd⟩ (fun hc=>by omega) (fun e0 h0 g hg x=>by rw [hpl.2.1] at x;cases x) (fun _=>hpl.2)
    · rintro e' ⟨e0,h0,rfl⟩
      obtain rfl:=hone e0 h0
      refine ⟨fun g hg=>(by simp [Eff.scr,pE] at hg),?_⟩
      have:=(hall2 _ (k2 e he)).2
      rw [app_comm (e0:=pE .junk) rfl hpl.1 (fun n hn=>(by cases hn)) h.d] at this
      exact this
  · have hs':(sE q0 l).app p.dst s=s.setOb q0 (some l):=by rw [hdst];exact sE_app q0 l s
    rw [hs'] at hq
    have hq2:OSG ty N ops q s Vq:=OSG.stL hq hq0 rfl (fun T x q' i ho he=>by
      rw [ev_setOb] at he
      rw [ho] at hCq
      have hm:=outQ_ptr (Qs:=Qs) (by simpa [CQ] using hCq) he
      simp only [AS.setOb]
      rw [if_neg (fun e=>by rw [e,hmq] at hm;cases hm)])
    refine ⟨Vq,hq2,⟨eq,heq⟩,fun e he=>?_⟩
    have hpl:=plain1 hq2 (by omega) he
    obtain ⟨k1,k2⟩:=plain_k hpl.2.1 hpl.2.2
    refine ⟨fun g hg=>(by rw [hpl.2.1] at hg;cases hg),fun e'=>∃ e0,Vp e0∧e'=e0.scr e.kb e.ko,?_,⟨_,_,hes,rfl⟩,?_⟩
    · exact OSG.fwd ht hp h.rp ⟨hpl.1,fun d hd=>by rw [hpl.2.2] at hd;cases hd⟩ (fun hc=>by omega) (fun e0 h0 g hg x=>by rw [hpl.2.1] at x;cases x) (fun _=>hpl.2)
    · rintro e' ⟨e0,h0,rfl⟩
      obtain rfl:=hone e0 h0
      rw [scr_id k1 k2]
      refine ⟨fun g hg=>(by cases hg),?_⟩
      have:=(hall2 e he).2
      rw [hdst] at this ⊢
      rw [sto_comm hpl] at this
      exact this
theorem swapL_q3 (ht:TabOK ty) (h:IndC ops fp fq p q) (h3:clsOp q.op=3) (hp0:clsOp p.op=1) (hCp:CQ N Qs p.op s=true) (hCq:CQ N Qs q.op s=true) (hs:stepD ty N ops fp p s (fun s1=>stepD ty N ops fq q s1 K)):stepD ty N ops fq q s (fun s2=>stepD ty N ops fp p s2 K):=by
  obtain ⟨Vp,hp,⟨es,hes⟩,hall⟩:=hs
  obtain ⟨hnb,V1,hq,⟨e1,he1⟩,hall2⟩:=hall es hes
  have hone:=fun e0 h0=>hp.one (by omega) (e:=e0) (e':=es) h0 hes
  have hpl:=plain1 hp (by omega) hes
  obtain ⟨k1,k2⟩:=plain_k hpl.2.1 hpl.2.2
  obtain ⟨Vq,g1,g2,g3,g4⟩:=OSG.bwd ht hq h.rq ⟨hpl.1,fun d hd=>by rw [hpl.2.2] at hd;cases hd⟩ (fun hc=>by omega) (fun _=>hpl.2)
  refine ⟨Vq,g1,g3 ⟨e1,he1⟩,fun e he=>?_⟩
  have hV1:=g2 e he
  rw [scr_id k1 k2] at hV1
  rcases g1.stoQ h3 he hCq with rfl | ⟨q0,l,l0,rfl,hob,hdst,hmq⟩
  · refine ⟨fun g hg=>(by cases hg),fun e'=>∃ e0,Vp e0∧e'=e0.scr (pE .junk).kb (pE .junk).ko,?_,⟨_,es,hes,rfl⟩,?_⟩
    · exact OSG.fwd ht hp h.rp ⟨rfl,fun d hd=>(by cases hd)⟩ (fun hc=>by omega) (fun e0 h0 g hg x=>(by cases x)) (fun hc=>by omega)
    · rintro e' ⟨e0,h0,rfl⟩
      obtain rfl:=hone e0 h0
      refine ⟨fun g hg=>(by rw [show (e0.scr (pE .junk).kb (pE .junk).ko).nb=e0.nb from rfl,hpl.2.1] at hg;cases hg),?_⟩
      have:=(hall2 _ hV1).2
      have hc:=app_comm (e0:=e0) (e:=pE .junk) (d0:=p.dst) (d:=q.dst) (s:=s) hpl.1 rfl (fun n hn=>by rw [hpl.2.2] at hn;cases hn) h.d
      rw [scr_id k1 k2] at hc
      rw [← hc];exact this
  · have hs':(sE q0 l).app q.dst s=s.setOb q0 (some l):=by rw [hdst];exact sE_app q0 l s
    refine ⟨fun g hg=>(by cases hg),Vp,?_,⟨es,hes⟩,?_⟩
    · rw [hs']
      exact OSG.stL hp hp0 rfl (fun T x q' i ho he2=>by
        rw [ho] at hCp
        have hm:=outQ_ptr (Qs:=Qs) (by simpa [CQ] using hCp) he2
        simp only [AS.setOb]
        rw [if_neg (fun e=>by rw [e,hmq] at hm;cases hm)])
    · intro e0 h0
      obtain rfl:=hone e0 h0
      refine ⟨fun g hg=>(by rw [hpl.2.1] at hg;cases hg),?_⟩
      have:=(hall2 _ hV1).2
      rw [hdst] at this ⊢
      rw [sto_comm hpl];exact this
def stepC (ty:TypeId→Option TyI) (N:Nat) (Qs:List Nat) (ops:List Oper) (fl:List Nat) (o:Oper) (s:AS) (K:AS→Prop):Prop:=CQ N Qs o.op s=true∧stepD ty N ops fl o s K
theorem rdG_op {t:Nat} (h:t∈rdOp o.op):t∈rdG ops o:=List.mem_append_left _ h
theorem swapC (ht:TabOK ty) (h:IndC ops fp fq p q) (hdp:∀ d,p.dst=some d→memQ d Qs=false) (hdq:∀ d,q.dst=some d→memQ d Qs=false) (hs:stepC ty N Qs ops fp p s (fun s1=>stepC ty N Qs ops fq q s1 K)):stepC ty N Qs ops fq q s (fun s2=>stepC ty N Qs ops fp p s2 K):=by
  obtain ⟨hCp,hs⟩:=hs
  have hCq:CQ N Qs q.op s=true:=by
    obtain ⟨Vp,hp,⟨es,hes⟩,hall⟩:=hs
    have:=(hall es hes).2.1
    rwa [CQ_app (fun t ht=>h.rq t (rdG_op ht)) (hp.koQ hes hdp)] at this
  have hs:=stepD_mono hs (fun s1 h1=>h1.2)
  have hw:stepD ty N ops fq q s (fun s2=>stepD ty N ops fp p s2 K):=by
    by_cases h3:clsOp p.op=3
    · rcases Nat.lt_or_ge (clsOp q.op) 1 with h1 | h1
      · exact swap ht ⟨h.d,h.rq,h.rp,h.c4,fun _=>by omega,fun e=>by omega,h.fp,h.fq⟩ hs
      · exact swapL_p3 ht h h3 (by have:=h.c3 h3;omega) hCp hCq hs
    · by_cases h3':clsOp q.op=3
      · rcases Nat.lt_or_ge (clsOp p.op) 1 with h1 | h1
        · exact swap ht ⟨h.d,h.rq,h.rp,h.c4,fun e=>absurd e h3,fun e=>by omega,h.fp,h.fq⟩ hs
        · exact swapL_q3 ht h h3' (by have:=h.c3' h3';omega) hCp hCq hs
      · exact swap ht ⟨h.d,h.rq,h.rp,h.c4,fun e=>absurd e h3,fun e=>absurd e h3',h.fp,h.fq⟩ hs
  refine ⟨hCq,?_⟩
  obtain ⟨Vq,hq,hne,hall⟩:=hw
  exact ⟨Vq,hq,hne,fun e he=>⟨(hall e he).1,by rw [CQ_app (fun t ht=>h.rp t (rdG_op ht)) (hq.koQ he hdq)];exact hCp,(hall e he).2⟩⟩
def aopsC (ty:TypeId→Option TyI) (N:Nat) (Qs:List Nat) (ops:List Oper) (fls:List (List Nat)):List Nat→AS→(AS→Prop)→Prop
  | [],s,K=>K s
  | i :: l,s,K=>match ops[i]? with
    | some o=>stepC ty N Qs ops (fls.getD i []) o s (fun s'=>aopsC ty N Qs ops fls l s' K)
    | none=>aopsC ty N Qs ops fls l s K
theorem stepC_mono {fl:List Nat} {K':AS→Prop} (h:stepC ty N Qs ops fl o s K) (hk:∀ s,K s→K' s):stepC ty N Qs ops fl o s K':=⟨h.1,stepD_mono h.2 hk⟩
theorem frontC (ht:TabOK ty) {fls:List (List Nat)} {i:Nat} {o:Oper} (ho:ops[i]? = some o) (hdo:∀ d,o.dst=some d→memQ d Qs=false) {post:List Nat}:∀ (pre:List Nat) (s:AS),(∀ j∈pre,∀ p,ops[j]? = some p→IndC ops (fls.getD j []) (fls.getD i []) p o∧∀ d,p.dst=some d→memQ d Qs=false) →
    aopsC ty N Qs ops fls (pre ++ i :: post) s K→stepC ty N Qs ops (fls.getD i []) o s (fun s'=>aopsC ty N Qs ops fls (pre ++ post) s' K)
  | [],s,_,h=>by
    simp only [List.nil_append,aopsC,ho] at h
    exact h
  | j :: pre,s,hi,h=>by
    simp only [List.cons_append,aopsC] at h ⊢
    cases hj:ops[j]? with
    | none =>
      rw [hj] at h
      simp only at h ⊢
      exact frontC ht ho hdo pre s (fun k hk=>hi k (List.mem_cons_of_mem _ hk)) h
    | some p =>
      rw [hj] at h
      simp only at h ⊢
      have h1:=stepC_mono h (fun s1 hs1=>frontC ht ho hdo pre s1 (fun k hk=>hi k (List.mem_cons_of_mem _ hk)) hs1)
      obtain ⟨g1,g2⟩:=hi j (List.mem_cons_self ..) p hj
      exact swapC ht g1 g2 hdo h1
end
def indCB (ops:List Oper) (fp fq:List Nat) (p q:Oper):Bool :=
  (match p.dst with
    | some t=>decide (q.dst ≠ some t) && !(rdG ops q).contains t && (!(clsOp p.op == 2 || clsOp p.op == 4) || fq.contains t)
    | none=>true) &&
  (match q.dst with
    | some t=>!(rdG ops p).contains t && (!(clsOp q.op == 2 || clsOp q.op == 4) || fp.contains t)
    | none=>true) &&
  !(clsOp p.op == 4 && clsOp q.op == 4) && (!(clsOp p.op == 3) || decide (clsOp q.op≤1)) && (!(clsOp q.op == 3) || decide (clsOp p.op≤1))
theorem indC_of {ops:List Oper} {fp fq:List Nat} {p q:Oper} (h:indCB ops fp fq p q=true):IndC ops fp fq p q:=by
  simp only [indCB,Bool.and_eq_true] at h
  obtain ⟨⟨⟨⟨h1,h2⟩,h3⟩,h4⟩,h5⟩:=h
  refine ⟨fun t ht=>?_,fun t ht e=>?_,fun t ht e=>?_,fun ⟨a,b⟩=>?_,fun a=>?_,fun a=>?_,fun a t ht=>?_,fun a t ht=>?_⟩
  · rw [ht] at h1;simp only [Bool.and_eq_true,decide_eq_true_eq] at h1;exact h1.1.1
  · rw [e] at h1;simp only [Bool.and_eq_true,Bool.not_eq_true'] at h1;have:=h1.1.2;simp only [List.contains_eq_mem,decide_eq_false_iff_not] at this;exact this ht
  · rw [e] at h2;simp only [Bool.and_eq_true,Bool.not_eq_true'] at h2;have:=h2.1;simp only [List.contains_eq_mem,decide_eq_false_iff_not] at this;exact this ht
  · simp [a,b] at h3
  · simpa [a] using h4
  · simpa [a] using h5
  · rw [ht] at h2
    simp only [Bool.and_eq_true] at h2
    have:=h2.2
    rcases a with a | a <;> simpa [a] using this
  · rw [ht] at h1
    simp only [Bool.and_eq_true] at h1
    have:=h1.2
    rcases a with a | a <;> simpa [a] using this
def dstQ (Qs:List Nat) (o:Oper):Bool:=match o.dst with
  | some d=>!memQ d Qs
  | none=>true
theorem dstQ_of {Qs:List Nat} {o:Oper} (h:dstQ Qs o=true):∀ d,o.dst=some d→memQ d Qs=false:=by
  intro d hd
  simpa [dstQ,hd] using h
def drawQ (Qs:List Nat) (ops:List Oper) (fls:List (List Nat)):Bool :=
  (List.range ops.length).all fun i=>match ops[i]? with
    | some o=>dstQ Qs o && (o.after.toList.all (fun e=>!Region.binds .any e || decide (e.on<i)) &&
        (List.range i).all (fun j=>reachF ops.toArray ops.length i j || match ops[j]? with
          | some p=>indCB ops (fls.getD j []) (fls.getD i []) p o
          | none=>true))
    | none=>true
theorem awp_regionC {ty:TypeId→Option TyI} {P:Cx→Prop} {N:Nat} {Q:Exit→AS→Prop} {s:AS} (Qs:List Nat) (ht:TabOK ty) (hm:Try.prog.follows .mixedOrders=true) {id:Nat} {l:List Oper} {fls:List (List Nat)} (hB:drawQ Qs l fls=true) (h:aopsC ty N Qs l fls (List.range l.length) s (Q .normal)):AWp P N (.region id l.toArray true) Q s:=by
  intro X a w hN hP ⟨G,hr⟩
  have hall:∀ (i:Nat) (o:Oper),l[i]? = some o→dstQ Qs o=true∧(o.after.toList.all (fun e=>!Region.binds .any e || decide (e.on<i))=true∧(List.range i).all (fun j=>reachF l.toArray l.length i j || match l[j]? with
          | some p=>indCB l (fls.getD j []) (fls.getD i []) p o
          | none=>true)=true):=by
    intro i o ho
    have hi:=(List.getElem?_eq_some_iff.1 ho).1
    have:=List.all_eq_true.1 hB i (List.mem_range.2 hi)
    rw [ho] at this
    simp only [Bool.and_eq_true] at this
    exact this
  have hdst:∀ (i:Nat) (o:Oper),l[i]? = some o→∀ d,o.dst=some d→memQ d Qs=false:=fun i o ho=>dstQ_of (hall i o ho).1
  have hchk:∀ i o,l[i]? = some o→(∀ e∈o.after,Region.binds .any e=true→e.on<i)∧∀ j,j<i→reachF l.toArray l.length i j=true∨∀ p,l[j]? = some p→IndC l (fls.getD j []) (fls.getD i []) p o:=by
    intro i o ho
    obtain ⟨_,t1,t2⟩:=hall i o ho
    refine ⟨fun e he hb=>?_,fun j hj=>?_⟩
    · have h1:=List.all_eq_true.1 t1 e (by simpa using he)
      rw [hb] at h1
      simpa using h1
    · have h1:=List.all_eq_true.1 t2 j (List.mem_range.2 hj)
      simp only [Bool.or_eq_true] at h1
      rcases h1 with h1 | h1
      · exact .inl h1
      · refine .inr fun p hp=>?_
        rw [hp] at h1
        exact indC_of h1
  refine wp_region_inv hm (fun d a' w'=>∃ s',Rel X s' a' w'∧aopsC ty N Qs l fls ((List.range l.length).filter fun i=>!d i) s' (Q .normal)) (fun i o ho=>(hchk i o (by simpa using ho)).1) ?_ ?_ ?_
  · refine ⟨s,⟨G,hr.drew⟩,?_⟩
    have:(List.range l.length).filter (fun i=>!(fun _=>false:Nat→Bool) i)=List.range l.length:=by simp
    rw [this];exact h
  · rintro d a' w' i o ho hd hdeps hcl hbig ⟨s',⟨G',hr'⟩,ha⟩
    have ho':l[i]? = some o:=by simpa using ho
    have hi:=(List.getElem?_eq_some_iff.1 ho').1
    obtain ⟨post,e1,e2⟩:=filter_split (fun j=>!d j) l.length i hi (by simp [hd])
    rw [e1] at ha
    have hfr:=(frontC (ty:=ty) (N:=N) ht ho' (hdst i o ho') _ s' (fun j hj p hp=>by
      obtain ⟨hj1,hj2⟩:=List.mem_filter.1 hj
      have hji:j<i:=List.mem_range.1 hj1
      refine ⟨?_,hdst j p hp⟩
      rcases (hchk i o ho').2 j hji with h1 | h1
      · exfalso
        have:=reachF_done (ops:=l.toArray) hcl l.length i j (fun o' h2=>by rw [ho] at h2;cases h2;exact hdeps) h1
        rw [this] at hj2;cases hj2
      · exact h1 p hp) ha).2
    refine stepD_ok ht hN hr' ho' hfr (fun s2 a2 w2 h2 h3=>⟨s2,h3,?_⟩)
    have e3:(List.range l.length).filter (fun j=>!(if j=i then true else d j))=(List.range l.length).filter (fun j=>(fun j=>!d j) j && !(j == i)):=by
      apply List.filter_congr
      intro x _
      by_cases ex:x=i
      · simp [ex]
      · simp [ex]
    rw [e3,e2];exact h2
  · rintro d a' w' hall hbig ⟨s',hr',ha⟩
    have:(List.range l.length).filter (fun i=>!d i)=[]:=by
      rw [List.filter_eq_nil_iff]
      intro x hx
      have:=hall x (by simpa using hx)
      simp [this]
    rw [this] at ha
    exact ⟨s',ha,hr'⟩
def wopsC (ty:TypeId→Option TyI) (N:Nat) (Qs:List Nat) (ops:List Oper):List Oper→Nat→AS→(AS→Prop)→Prop
  | [],_,s,K=>K s
  | o :: rest,i,s,K=>CQ N Qs o.op s=true∧match o.guard with
    | none=>wOp ty N (flAt ops i) o s (fun s'=>wopsC ty N Qs ops rest (i+1) s' K)
    | some (j,want)=>match (ops[j]?).bind (·.dst) with
      | some t=>t<N∧match s.tm t with
        | .d (.bool b)=>if b=want then wOp ty N (flAt ops i) o s (fun s'=>wopsC ty N Qs ops rest (i+1) s' K) else wopsC ty N Qs ops rest (i+1) (s.putD o.dst .junk) K
        | _=>False
      | none=>False
theorem KC_ex (ty:TypeId→Option TyI) (N:Nat) (Qs:List Nat) (ops rest:List Oper) (i:Nat) (K:AS→Prop):∃ f:AS→Prop,f=fun s=>wopsC ty N Qs ops rest i s K:=⟨_,rfl⟩
noncomputable def KC (ty:TypeId→Option TyI) (N:Nat) (Qs:List Nat) (ops rest:List Oper) (i:Nat) (K:AS→Prop):AS→Prop:=Classical.choose (KC_ex ty N Qs ops rest i K)
theorem KC_eq (ty:TypeId→Option TyI) (N:Nat) (Qs:List Nat) (ops rest:List Oper) (i:Nat) (K:AS→Prop):KC ty N Qs ops rest i K=fun s=>wopsC ty N Qs ops rest i s K:=Classical.choose_spec (KC_ex ty N Qs ops rest i K)
theorem KC_app (ty:TypeId→Option TyI) (N:Nat) (Qs:List Nat) (ops rest:List Oper) (i:Nat) (K:AS→Prop) (s:AS):KC ty N Qs ops rest i K s=wopsC ty N Qs ops rest i s K:=by rw [KC_eq]
theorem wopsC_nil (ty:TypeId→Option TyI) (N:Nat) (Qs:List Nat) (ops:List Oper) (i:Nat) (s:AS) (K:AS→Prop):wopsC ty N Qs ops [] i s K=K s:=rfl
theorem wopsC_cons (ty:TypeId→Option TyI) (N:Nat) (Qs:List Nat) (ops rest:List Oper) (o:Oper) (i:Nat) (s:AS) (K:AS→Prop):wopsC ty N Qs ops (o :: rest) i s K=(CQ N Qs o.op s=true∧match o.guard with
    | none=>wOp ty N (flAt ops i) o s (KC ty N Qs ops rest (i+1) K)
    | some (j,want)=>match (ops[j]?).bind (·.dst) with
      | some t=>t<N∧match s.tm t with
        | .d (.bool b)=>if b=want then wOp ty N (flAt ops i) o s (KC ty N Qs ops rest (i+1) K) else KC ty N Qs ops rest (i+1) K (s.putD o.dst .junk)
        | _=>False
      | none=>False):=by rw [KC_eq];rfl
theorem wopsC_id {ty:TypeId→Option TyI} {N:Nat} {Qs:List Nat} {ops l:List Oper} {i:Nat} {s:AS} {K:AS→Prop} (h:wopsC ty N Qs ops l i s K):wopsC ty N Qs ops l i s K:=h
theorem kc_id {ty:TypeId→Option TyI} {N:Nat} {Qs:List Nat} {ops rest:List Oper} {i:Nat} {s:AS} {K:AS→Prop} (h:wopsC ty N Qs ops rest i s K):KC ty N Qs ops rest i K s:=(KC_app ..).symm ▸ h
theorem wopsC_ok {ty:TypeId→Option TyI} {N:Nat} {Qs:List Nat} {ops:List Oper} {fls:List (List Nat)} {K:AS→Prop} (hf:∀ i,i<ops.length→fls.getD i []=flAt ops i):∀ (rest:List Oper) (k:Nat) (s:AS),(∀ j,j<rest.length→rest[j]? = ops[k+j]?)→wopsC ty N Qs ops rest k s K→aopsC ty N Qs ops fls (List.range' k rest.length) s K
  | [],k,s,_,h=>h
  | o :: rest,k,s,h1,h=>by
    have h0:ops[k]? = some o:=by simpa using (h1 0 (by simp)).symm
    have f0:fls.getD k []=flAt ops k:=hf k (List.getElem?_eq_some_iff.1 h0).1
    have ih:=fun s' (hh:wopsC ty N Qs ops rest (k+1) s' K)=>wopsC_ok hf rest (k+1) s' (fun j hj=>by have:=h1 (j+1) (by simpa using hj);simpa [Nat.add_assoc,Nat.add_comm 1 j] using this) hh
    simp only [List.length_cons,List.range'_succ,aopsC,h0,f0]
    unfold wopsC at h
    obtain ⟨hC,h⟩:=h
    refine ⟨hC,?_⟩
    unfold stepD
    split at h
    · rename_i hg
      obtain ⟨V,g1,g2,g3⟩:=wOp_os h
      exact ⟨V,by unfold OSG;rw [hg];exact g1,g2,fun e he=>⟨(g3 e he).1,ih _ (g3 e he).2⟩⟩
    · rename_i j want hg
      split at h
      · rename_i t ht
        obtain ⟨hlt,h⟩:=h
        split at h
        · rename_i b hb
          split at h
          · rename_i e
            obtain ⟨V,g1,g2,g3⟩:=wOp_os h
            exact ⟨V,by unfold OSG;rw [hg];exact ⟨t,b,ht,hlt,hb,fun _=>g1,fun x=>absurd e x⟩,g2,fun e he=>⟨(g3 e he).1,ih _ (g3 e he).2⟩⟩
          · rename_i e
            refine ⟨fun e=>e=pE .junk,by unfold OSG;rw [hg];exact ⟨t,b,ht,hlt,hb,fun x=>absurd x e,fun _=>rfl⟩,⟨_,rfl⟩,?_⟩
            rintro _ rfl
            refine ⟨fun g hg=>(by cases hg),?_⟩
            rw [pE_app]
            exact ih _ h
        · exact h.elim
      · exact h.elim
theorem awp_drawQ {ty:TypeId→Option TyI} {P:Cx→Prop} {N:Nat} {Q:Exit→AS→Prop} {s:AS} (Qs:List Nat) (ht:TabOK ty) (hm:Try.prog.follows .mixedOrders=true) {id:Nat} {l:List Oper} (hB:drawQ Qs l ((List.range l.length).map (flAt l))=true) (h:∀ K:AS→Prop,(∀ s,Q .normal s→K s)→wopsC ty N Qs l l 0 s K):AWp P N (.region id l.toArray true) Q s:=by
  refine awp_regionC Qs ht hm hB ?_
  rw [List.range_eq_range']
  exact wopsC_ok (fun i hi=>by simp [List.getD,hi]) l 0 s (fun j _=>by simp) (h _ fun _ h=>h)
attribute [go_sem] wopsC_nil wopsC_cons KC_app CQ outQ inQ memQ
class Stp (p:Prop) (q:outParam Prop):Prop where
  h:q→p
theorem stp {p q:Prop} [i:Stp p q] (h:q):p:=i.h h
class Stq (p:Prop) (q:outParam Prop):Prop where
  h:q→p
theorem stq {p q:Prop} [i:Stq p q] (h:q):p:=i.h h
class IsAnd (g:Prop) (p q:outParam Prop):Prop where
  h:p→q→g
instance {p q:Prop}:IsAnd (p∧q) p q:=⟨And.intro⟩
theorem and_side {g p q:Prop} [i:IsAnd g p q] (h:q) (hp:p:=by first | with_reducible assumption | with_reducible rfl | omega | kernel_rfl | (simp;done) | (simp;omega)):g:=i.h hp h
theorem leafs {p:Prop} (h:p:=by repeat (first | refine And.intro ?_ ?_ | (first | with_reducible exact ALe.refl _ | with_reducible exact ALe.nil _ | with_reducible exact ALe.dd (dle_wh _ _) | with_reducible exact ALe.nl | with_reducible exact ALe.nilw _ | with_reducible exact ALe.bufw _ _ _ _ | with_reducible exact ALe.dd (dle_rel0 _) | with_reducible exact ALe.dd (dle_rowsV _) | with_reducible exact ALe.dd (dle_rowsW _) | with_reducible exact ALe.buf _ _ _ _ | (refine ale_int ?_;first | with_reducible assumption | with_reducible rfl | omega | kernel_rfl | (simp;done) | (simp;omega)) | (refine ale_bool ?_;first | with_reducible assumption | with_reducible rfl | omega | kernel_rfl | (simp;done) | (simp;omega)) | (refine ale_buf ?_;(first | rfl | (simp;done))) | (refine ale_bufd ?_;(first | rfl | (simp;done))) | (refine ale_bufw ?_;(first | rfl | (simp;done))) | (refine ale_sl ?_;(first | rfl | (simp;done))) | (refine ale_arr ?_;first | with_reducible assumption | with_reducible rfl | omega | kernel_rfl | (simp;done) | (simp;omega))) | (first | (refine ob_eq ?_;(first | rfl | (simp;done))) | (refine ob_les ?_;(repeat' (first | exact ALes.nil | refine ALes.cons ?_ ?_ | (first | with_reducible exact ALe.refl _ | with_reducible exact ALe.nil _ | with_reducible exact ALe.dd (dle_wh _ _) | with_reducible exact ALe.nl | with_reducible exact ALe.nilw _ | with_reducible exact ALe.bufw _ _ _ _ | with_reducible exact ALe.dd (dle_rel0 _) | with_reducible exact ALe.dd (dle_rowsV _) | with_reducible exact ALe.dd (dle_rowsW _) | with_reducible exact ALe.buf _ _ _ _ | (refine ale_int ?_;first | with_reducible assumption | with_reducible rfl | omega | kernel_rfl | (simp;done) | (simp;omega)) | (refine ale_bool ?_;first | with_reducible assumption | with_reducible rfl | omega | kernel_rfl | (simp;done) | (simp;omega)) | (refine ale_buf ?_;(first | rfl | (simp;done))) | (refine ale_bufd ?_;(first | rfl | (simp;done))) | (refine ale_bufw ?_;(first | rfl | (simp;done))) | (refine ale_sl ?_;(first | rfl | (simp;done))) | (refine ale_arr ?_;first | with_reducible assumption | with_reducible rfl | omega | kernel_rfl | (simp;done) | (simp;omega)))));done) | (refine ob_eq ?_)))):p:=h
section
variable {P:Cx→Prop} {N:Nat} {Q:Exit→AS→Prop} {s:AS} {next:AS→Prop} {id:Nat}
instance:Stp (AWp P N .skip Q s) (Q .normal s):=⟨awp_skip⟩
instance:Stp (AWp P N (.exit id) Q s) (Q (.exit id) s):=⟨awp_exit⟩
instance:Stp (AWp P N .ret Q s) (Q .ret s):=⟨awp_ret⟩
instance {c:Code}:Stp (AWp P N (.block id c) Q s) (AWp P N c (inBlockA id Q) s):=⟨awp_block⟩
instance:Stp (thenA next Q .normal s) (next s):=⟨then_n⟩
instance:Stp (thenA next Q .ret s) (Q .ret s):=⟨then_r⟩
instance:Stp (thenA next Q (.exit id) s) (Q (.exit id) s):=⟨then_e⟩
instance:Stp (inBlockA id Q .normal s) (Q .normal s):=⟨blk_n⟩
instance:Stp (inBlockA id Q .ret s) (Q .ret s):=⟨blk_r⟩
instance:Stp (inBlockA id Q (.exit id) s) (Q .normal s):=⟨blk_e⟩
end
section
variable {ty:TypeId→Option TyI} {N i:Nat} {Qs:List Nat} {ops l:List Oper} {s:AS} {K:AS→Prop}
instance:Stq (KA ty N ops l K s) (aops ty N ops l s K):=⟨ka_id⟩
instance:Stq (KD ty N ops l i K s) (wops ty N ops l i s K):=⟨kd_id⟩
instance:Stq (KC ty N Qs ops l i K s) (wopsC ty N Qs ops l i s K):=⟨kc_id⟩
instance:Stq (aops ty N ops l s K) (aops ty N ops l s K):=⟨aops_id⟩
instance:Stq (wops ty N ops l i s K) (wops ty N ops l i s K):=⟨wops_id⟩
instance:Stq (wopsC ty N Qs ops l i s K) (wopsC ty N Qs ops l i s K):=⟨wopsC_id⟩
end
theorem awp_drawA {P:Cx→Prop} {N:Nat} {Q:Exit→AS→Prop} {s:AS} {id:Nat} {l:List Oper} (h:∀ K:AS→Prop,(∀ s,Q .normal s→K s)→wops tyT N l l 0 s K) (hm:Try.prog.follows .mixedOrders=true:=by kernel_rfl) (hB:drawB l ((List.range l.length).map (flAt l))=true:=by kernel_rfl):AWp P N (.region id l.toArray true) Q s:=awp_draw tyT_ok hm hB h
end Go.Proofs.Ytpbclpopoodklaa
