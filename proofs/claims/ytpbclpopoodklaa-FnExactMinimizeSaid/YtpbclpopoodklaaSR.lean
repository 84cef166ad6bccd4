/- Lemmas for the proof of FnExactMaximize, part 37 of 56: no condition of their own. -/
import Derived.Test.YtpbclpopoodklaaSP
namespace Go.Proofs.Ytpbclpopoodklaa
set_option linter.unusedSimpArgs false
set_option linter.unusedVariables false
attribute [local go_sem ↓] reduceIte
attribute [local go_sem] Nat.reduceEqDiff Nat.reduceLT Nat.reduceAdd Nat.reduceLeDiff Nat.reduceMul Nat.reduceBEq Nat.reduceSub reduceCtorEq Int.reduceLE Int.reduceNeg Int.reduceLT
open Go.RowKit
theorem implCopyI (l:List DV) (hl:l.length≤1048576) (hel:elemsOK 1 l=true):AFn 46 [.d (.sl 1 l)] [] (fun r os=>r=.buf 0 3 1 l∧os=[]):=by
  refine afn_of (rv:=[.tmp 2]) tyT_ok Try.func46 rfl (by decide +kernel) Try.ntmps46 rfl (by simp) ?_
  repeat' (first | refine awp_seq ?_ | refine stp ?_ | refine blk_o (by decide) ?_ | (apply awp_condB;(focus (simp (disch:=(first | omega | (simp;omega))) only [go_sem,w64];try exact rfl));first | with_reducible refine condOf_t ?_ | with_reducible refine condOf_f ?_) | (refine awp_region' tyT_ok ?_;intro K hK) | (refine awp_drawA ?_;intro K hK) | (with_reducible refine hK _ ?_;clear hK K) | (refine stq ?_;simp (disch:=(first | omega | (simp;omega))) only [go_sem,w64]) | refine and_side ?_ | fail)
  refine endG 3 (r:=.buf 0 3 1 l) ⟨rfl,rfl⟩
def tyF (T:TypeId):Option TyI:=if T=65 then some ⟨1,false,[.cst .nilFunc],[],none,[],false,false⟩ else tyT T
theorem tyF_ok:TabOK tyF:=by
  intro T i h
  unfold tyF at h
  by_cases e:T=65
  · rw [if_pos e] at h
    cases h
    subst e
    have hu:∃ d,Try.prog.underlying 65=some d∧(∀ fs,d ≠ .struct fs)∧∀ n e,d ≠ .array n e:=⟨_,rfl,fun _ e=>(by cases e),fun _ _ e=>(by cases e)⟩
    obtain ⟨d,h1,h2,h3⟩:=hu
    have:=tyLeaf (z:=.nilFunc) (b:=8) (zs:=[.cst .nilFunc]) (by kernel_rfl) (by decide) ⟨_,_,rfl,⟨fun _ _=>rfl,fun _ _=>rfl⟩,rfl,rfl⟩ rfl h1 h2 h3
    exact ⟨this.info,this.agg,this.flat,fun d h=>(by cases h),this.pl⟩
  · rw [if_neg e] at h
    exact tyT_ok T i h
theorem chD_el (ch:List Nat):elemsOK 1 (ch.map fun k:Nat=>DV.int k)=true:=by
  induction ch with
  | nil=>rfl
  | cons k l ih =>
    simp only [elemsOK,List.map_cons,List.all_cons,Bool.and_eq_true] at ih ⊢
    exact ⟨⟨rfl,rfl⟩,ih⟩
theorem res_choose (a:Act) (w:World):(results Try.f45 a.tmps).run Try.prog w=.ok (.tuple #[]) w:=by
  have h:Try.f45.results = #[]:=rfl
  unfold results
  rw [h]
  simp
theorem env_stay {A:List (List RatD)} {B Cc:List RatD} {rows:List (List RatD)} {right:List RatD} {sg:Int} {n:Nat} {fv:Value} {C C':Nat→Nat→Prop} {w w':World} {bo:Nat} {ptrs:List Value} (hst:Stay C C' w w') (h:CVs (gh C bo) w (envL A B Cc rows right sg n fv) ptrs):CVs (gh C' bo) w' (envL A B Cc rows right sg n fv) ptrs :=
  CVs.keep (G:=gh C bo) (G':=gh C' bo) (w:=w) (w':=w') ⟨hst,fun _ _=>⟨rfl,rfl,rfl⟩,fun _ _=>rfl⟩ h
section
variable {A:List (List RatD)} {B Cc:List RatD} {rows:List (List RatD)} {right:List RatD} {sg:Int} {n:Nat}
theorem choose_leaf (hR:RowsOK A B Cc rows right n) (hsg:sg=1∨sg = -1) {bo:Nat} {ptrs:List Value} {fv:Value} (hpl:ptrs.length=6) (from_:Nat) (ch:List Nat) (outs:List (List RatD)) (w:World) (C:Nat→Nat→Prop) (hdr vch:Value) (hl:ch.length=n) (hfr:from_≤rows.length) (hT:rows.length≤10) (hch:∀ k∈ch,k<rows.length) (hlen:outs.length≤16777215) (hol:∀ y∈outs,y.length≤1048576) (hC:∀ b i,C b i→b<w.heap.size) (hO:OutW C w bo hdr outs) (hE:CVs (gh C bo) w (envL A B Cc rows right sg n fv) ptrs) (hv:CX C w (chD ch) [vch]) :
    Calls Try.prog 45 ([Value.int .i64 (from_:Nat),vch] ++ ptrs ++ [Value.pointer (some ⟨bo,0,none⟩)]).toArray w (fun e w'=>∃ v C' hdr',e=.returned v∧ChR C C' w w' bo hdr hdr'∧OutW C' w' bo hdr' (leafF A B Cc rows right sg ch outs)):=by
  obtain ⟨C1,hC1d⟩:∃ C1:Nat→Nat→Prop,C1=fun b i=>C b i∨(hdr.ownBlock=some b∧i<outs.length):=⟨_,rfl⟩
  have hC1:∀ b i,C1 b i→b<w.heap.size:=fun b i h=>by
    rw [hC1d] at h
    rcases h with h | h
    · exact hC b i h
    · exact (hO.own b h.1).2.1
  have hst:Stay C C1 w w:=fun b i h=>⟨by rw [hC1d];exact .inl h,rfl⟩
  have hE1:=env_stay hst hE
  have hone:hdr.oneCell'=true:=by
    obtain ⟨a,m,c,vs,rfl,_⟩:=hO.buf
    rfl
  have hnC1:∀ i,¬ C1 bo i:=fun i h=>by
    rw [hC1d] at h
    rcases h with h | h
    · exact hO.noC i h
    · exact (hO.own bo h.1).1 rfl
  obtain ⟨X,hXN,hXw,hXL,hXC,hXA,hRel⟩:=rel_ent (N:=90) (w:=w) (G:=gh C1 bo) (args:=.d (.int (from_:Nat)) :: .d (chD ch) :: (envL A B Cc rows right sg n fv ++ [.ptr 0 0])) (os:=[[.d (.hv hdr)]]) (vs:=Value.int .i64 (from_:Nat) :: vch :: (ptrs ++ [Value.pointer (some ⟨bo,0,none⟩)])) ⟨Value.int .i64 (from_:Nat),vch :: (ptrs ++ [Value.pointer (some ⟨bo,0,none⟩)]),rfl,cvInt.2 ⟨rfl,by unfold I64;omega⟩,vch,ptrs ++ [Value.pointer (some ⟨bo,0,none⟩)],rfl,cvSl.2 (CX.stay hst _ _ hv),CVs.app hE1 (show CVs (gh C1 bo) w [.ptr 0 0] [Value.pointer (some ⟨bo,0,none⟩)] from ⟨_,_,rfl,rfl,rfl⟩)⟩ hC1 (fun i l hl=>by
    have hi:i=0:=by have:=(List.getElem?_eq_some_iff.1 hl).1;simpa using this
    subst hi
    simp only [List.getElem?_cons_zero,Option.some.injEq] at hl
    subst hl
    refine ⟨hO.lt,hnC1,[hdr],⟨hdr,[],rfl,⟨[hdr],⟨rfl,hone⟩,.inr ⟨fun m e=>(by cases e),rfl⟩⟩,rfl⟩,fun u hu=>by rw [List.mem_singleton.1 hu];exact hone,fun i u hu=>?_⟩
    have hi:i=0:=by have:=(List.getElem?_eq_some_iff.1 hu).1;simpa using this
    subst hi
    simp only [List.getElem?_cons_zero,Option.some.injEq] at hu
    subst hu
    exact ⟨hO.cell,hO.frz⟩) (fun i j hi hj _=>by simp at hi hj;omega) (by simp [envL])
  have hX:LeafX X C w bo hdr outs.length:=⟨hXw,fun b=>by rw [hXL];exact ⟨fun ⟨i,_,e⟩=>e.symm,fun e=>⟨0,by simp,e.symm⟩⟩,fun b i=>by rw [hXC];show C1 b i↔_;rw [hC1d],by rw [hXA];rfl⟩
  obtain ⟨c,hc,hcw⟩:=leaf_cw (X:=X) (sg:=sg) (fv:=fv) (from_:=(from_:Nat)) (R:=fun e w'=>∃ v C' hdr',e=.returned v∧ChR C C' w w' bo hdr hdr'∧OutW C' w' bo hdr' (leafF A B Cc rows right sg ch outs)) hR hsg hl hch hlen hol hC hO hX hXN
    (fun a w' h1 h2 h3 h4=>⟨h1,_,res_choose a w',_,C,hdr,rfl,h2,by rw [h4];exact h3⟩)
    (fun x h0 a w' h1 C' hdr' h2 h3=>⟨h1,_,res_choose a w',_,C',hdr',rfl,h2,by rw [h0];exact h3⟩)
  refine calls_of_wp Try.func45 hc (hcw _ w ?_)
  have hs:SLe (entS (.d (.int (from_:Nat)) :: .d (chD ch) :: (envL A B Cc rows right sg n fv ++ [.ptr 0 0])) [[.d (.hv hdr)]]) (leafS A B Cc rows right sg n fv hdr (from_:Nat) ch):=by
    unfold leafS envL
    (refine sle_mk ?_ ?_ <;> simp (disch:=(first | omega | (simp;omega))) only [go_sem,w64,chD] <;> exact leafs)
  have:=hRel.weak hs
  simpa using this
theorem run_callV {a:Act} {w:World} {o:Oper} {f x y:Operand} {ats:Array TypeId} {g:FuncId} {caps:List Value} {fn:Func} (ho:o.op=.call { callee:=.value f,args:=#[x,y],argTypes:=ats }) (hf:a.eval f=.func (.func g) #[] caps.toArray) (hfn:Try.prog.funcs[g]? = some fn) (hb1:(fn.name == "runtime.NumGoroutine")=false) (hb2:fn.body.isNone=false):(execOp a.eval o).run Try.prog w=.ok (.enter g ([a.eval x,a.eval y] ++ caps).toArray) w:=by
  have hb3:¬ fn.name = "runtime.NumGoroutine" := by simpa using hb1
  have hb4:¬ fn.body=none:=by intro e;rw [e] at hb2;cases hb2
  simp [execOp,ho,resolve,hf,Deferred.ofValue,invoke,callFunc,hfn,hb3,hb4]
def dHi (o:Oper):Bool:=match o.dst with
  | some d=>decide (8<d)
  | none=>true
theorem kept8 {l:List Oper} {a a':Act} (hk:KeptL l a a') (hb:l.all dHi=true) {t:Nat} (ht:t≤8):a'.tmps.getD t undef=a.tmps.getD t undef:=hk t fun o ho e=>by
  have:=List.all_eq_true.1 hb o ho
  unfold dHi at this
  rw [e] at this
  exact absurd (of_decide_eq_true this) (Nat.not_lt.2 ht)
def dHi11 (o:Oper):Bool:=match o.dst with
  | some d=>decide (8<d) && !decide (d=11)
  | none=>true
theorem kept11 {l:List Oper} {a a':Act} (hk:KeptL l a a') (hb:l.all dHi11=true) {t:Nat} (ht:t≤8∨t=11):a'.tmps.getD t undef=a.tmps.getD t undef:=hk t fun o ho e=>by
  have:=List.all_eq_true.1 hb o ho
  unfold dHi11 at this
  rw [e] at this
  simp only [Bool.and_eq_true,Bool.not_eq_true'] at this
  rcases ht with ht | ht
  · exact absurd (of_decide_eq_true this.1) (Nat.not_lt.2 ht)
  · exact of_decide_eq_false this.2 ht
def vI:Value→Int
  | .int _ x=>x
  | _=>0
def recTL (A:List (List RatD)) (B Cc:List RatD) (rows:List (List RatD)) (right:List RatD) (sg:Int) (n:Nat) (fv:Value) (ch:List Nat):List (Nat×AV):=[(1,.d (chD ch)),(2,.loc [.int (n:Nat)]),(3,.loc [matD rows]),(4,.loc [.hv fv]),(5,.loc [ratsD right]),(6,.loc [matD A,ratsD B,ratsD Cc]),(7,.loc [.int sg])]
def foldC (A:List (List RatD)) (B Cc:List RatD) (rows:List (List RatD)) (right:List RatD) (sg:Int) (d from_:Nat) (ch:List Nat) (outs:List (List RatD)) (k:Nat):List (List RatD):=(List.range' from_ (k - from_)).foldl (fun o j=>chF A B Cc rows right sg d (j+1) (ch ++ [j]) o) outs
theorem foldC_succ (A:List (List RatD)) (B Cc:List RatD) (rows:List (List RatD)) (right:List RatD) (sg:Int) (d from_:Nat) (ch:List Nat) (outs:List (List RatD)) {k:Nat} (h:from_≤k):foldC A B Cc rows right sg d from_ ch outs (k+1)=chF A B Cc rows right sg d (k+1) (ch ++ [k]) (foldC A B Cc rows right sg d from_ ch outs k):=by
  unfold foldC
  rw [show k+1 - from_=(k - from_)+1 by omega,List.range'_1_concat,List.foldl_append,show from_+(k - from_)=k by omega]
  rfl
set_option maxHeartbeats 4000000 in
theorem choose_calls (hR:RowsOK A B Cc rows right n) (hsg:sg=1∨sg = -1) {bo:Nat} {ptrs:List Value} {fv:Value} (hpl:ptrs.length=6) (hfv:fv=.func (.func 45) #[] (ptrs ++ [Value.pointer (some ⟨bo,0,none⟩)]).toArray) :
    ∀ (d from_:Nat) (ch:List Nat) (outs:List (List RatD)) (w:World) (C:Nat→Nat→Prop) (hdr vch:Value),ch.length+d=n→from_≤rows.length→(∀ k∈ch,k<rows.length)→outs.length+2 ^ (rows.length - from_)≤16777216→(∀ y∈outs,y.length≤1048576)→(∀ b i,C b i→b<w.heap.size)→OutW C w bo hdr outs→CVs (gh C bo) w (envL A B Cc rows right sg n fv) ptrs→CX C w (chD ch) [vch] →
    Calls Try.prog 45 ([Value.int .i64 (from_:Nat),vch] ++ ptrs ++ [Value.pointer (some ⟨bo,0,none⟩)]).toArray w (fun e w'=>∃ v C' hdr',e=.returned v∧ChR C C' w w' bo hdr hdr'∧OutW C' w' bo hdr' (chF A B Cc rows right sg d from_ ch outs)):=by
  have hT:=hR.T
  have hn5:=hR.n5
  intro d
  induction d with
  | zero =>
    intro from_ ch outs w C hdr vch hl hfr hch hB hol hC hO hE hv
    have:=Nat.one_le_two_pow (n:=rows.length - from_)
    exact choose_leaf hR hsg hpl from_ ch outs w C hdr vch (by omega) hfr hT hch (by omega) hol hC hO hE hv
  | succ d ih =>
    intro from_ ch outs w C hdr vch hl hfr hch hB hol hC hO hE hv
    have hchl:(ch.map fun k:Nat=>DV.int k).length=ch.length:=List.length_map ..
    obtain ⟨X,hXN,hXw,hXL,hXC,hXA,hRel⟩:=rel_ent (N:=90) (w:=w) (G:=gh C bo) (args:=.d (.int (from_:Nat)) :: .d (chD ch) :: (envL A B Cc rows right sg n fv ++ [.junk])) (os:=[]) (vs:=Value.int .i64 (from_:Nat) :: vch :: (ptrs ++ [Value.pointer (some ⟨bo,0,none⟩)])) ⟨Value.int .i64 (from_:Nat),vch :: (ptrs ++ [Value.pointer (some ⟨bo,0,none⟩)]),rfl,cvInt.2 ⟨rfl,by unfold I64;omega⟩,vch,ptrs ++ [Value.pointer (some ⟨bo,0,none⟩)],rfl,cvSl.2 hv,CVs.app hE (show CVs (gh C bo) w [.junk] [Value.pointer (some ⟨bo,0,none⟩)] from ⟨_,_,rfl,trivial,rfl⟩)⟩ hC (fun i l hl=>by simp at hl) (fun i j hi=>by simp at hi) (by simp [envL])
    have hX:RecX X C w:=⟨hXN,hXw,fun b=>by rw [hXL];exact fun ⟨i,hi,_⟩=>by simp at hi,fun b i=>by rw [hXC];exact Iff.rfl⟩
    have hS0:SLe (entS (.d (.int (from_:Nat)) :: .d (chD ch) :: (envL A B Cc rows right sg n fv ++ [.junk])) []) (mkS ((0,.d (.int (from_:Nat))) :: recTL A B Cc rows right sg n fv ch) []):=by
      unfold recTL envL
      (refine sle_mk ?_ ?_ <;> simp (disch:=(first | omega | (simp;omega))) only [go_sem,w64,chD] <;> exact leafs)
    replace hRel:=hRel.weak hS0
    obtain ⟨a0,ha0⟩:∃ a0:Act,a0 = { tmps:=(Value.int .i64 (from_:Nat) :: vch :: (ptrs ++ [Value.pointer (some ⟨bo,0,none⟩)])).toArray ++ Array.replicate (90 - (Value.int .i64 (from_:Nat) :: vch :: (ptrs ++ [Value.pointer (some ⟨bo,0,none⟩)])).toArray.size) undef,defers:=[] }:=⟨_,rfl⟩
    refine calls_of_wp Try.func45 (c:=_) rfl ?_
    have hact:({ tmps:=([Value.int .i64 (from_:Nat),vch] ++ ptrs ++ [Value.pointer (some ⟨bo,0,none⟩)]).toArray ++ Array.replicate (Try.f45.ntmps - ([Value.int .i64 (from_:Nat),vch] ++ ptrs ++ [Value.pointer (some ⟨bo,0,none⟩)]).toArray.size) undef,defers:=[] }:Act)=a0:=by
      rw [ha0]
      have:Try.f45.ntmps=90:=rfl
      rw [this]
      simp
    rw [hact]
    rw [← ha0] at hRel
    have hp0:∀ (t:Nat) (v:Value),(Value.int .i64 (from_:Nat) :: vch :: (ptrs ++ [Value.pointer (some ⟨bo,0,none⟩)]))[t]? = some v→a0.tmps.getD t undef=v:=fun t v h=>by
      rw [ha0]
      have ht:=(List.getElem?_eq_some_iff.1 h).1
      simp only [Array.getD_eq_getD_getElem?,Array.getElem?_append,List.size_toArray,if_pos ht,List.getElem?_toArray,h,Option.getD_some]
    have hpr:∀ p∈recTL A B Cc rows right sg n fv ch,1≤p.1∧p.1≤8:=fun p hp=>by
      simp only [recTL,List.mem_cons,List.not_mem_nil,or_false] at hp
      rcases hp with rfl | rfl | rfl | rfl | rfl | rfl | rfl <;> (constructor <;> simp)
    have hcv0:∀ p∈recTL A B Cc rows right sg n fv ch,CV (gh C bo) w p.2 (a0.tmps.getD p.1 undef):=fun p hp=>by
      have key:∀ (i:Nat) (x:AV),(envL A B Cc rows right sg n fv)[i]? = some x→CV (gh C bo) w x (a0.tmps.getD (i+2) undef):=fun i x hx=>by
        obtain ⟨v,h1,h2⟩:=hE.at i x hx
        rw [hp0 (i+2) v (by
          have hi:=(List.getElem?_eq_some_iff.1 h1).1
          simp only [List.getElem?_cons_succ,List.getElem?_append,if_pos hi,h1])]
        exact h2
      simp only [recTL,List.mem_cons,List.not_mem_nil,or_false] at hp
      rcases hp with rfl | rfl | rfl | rfl | rfl | rfl | rfl
      · rw [hp0 1 vch rfl];exact cvSl.2 hv
      · exact key 0 _ rfl
      · exact key 1 _ rfl
      · exact key 2 _ rfl
      · exact key 3 _ rfl
      · exact key 4 _ rfl
      · exact key 5 _ rfl
    clear hact ha0
    refine wp_seq (wp_seq (wp_mono (region_keep tyT_ok hXN hRel (fun s=>s.tm 23=.d (.bool true)∧SLe s (mkS ((0,.d (.int (from_:Nat))) :: recTL A B Cc rows right sg n fv ch) [])) ?_) ?_))
    · intro K hK
      have z1:decide ((ch.length:Int)<(n:Nat))=true:=decide_eq_true (by omega)
      unfold recTL at hK ⊢
      repeat' (first | refine awp_seq ?_ | refine stp ?_ | refine blk_o (by decide) ?_ | (apply awp_condB;(focus (simp (disch:=(first | omega | (simp;omega))) only [go_sem,w64,chD,hchl,z1];try exact rfl));first | with_reducible refine condOf_t ?_ | with_reducible refine condOf_f ?_) | (refine awp_region' tyT_ok ?_;intro K hK) | (refine awp_drawA ?_;intro K hK) | (with_reducible refine hK _ ?_;clear hK K) | (refine stq ?_;simp (disch:=(first | omega | (simp;omega))) only [go_sem,w64,chD,hchl,z1]) | refine and_side ?_ | fail)
      (refine sle_mk ?_ ?_ <;> simp (disch:=(first | omega | (simp;omega))) only [go_sem,w64,chD] <;> exact leafs)
    · rintro e a1 w1 ⟨rfl,⟨s1,⟨h23,hle1⟩,hr1⟩,hk1⟩
      show (Code.cond _ _ _).wp _ _ a1 w1
      have e23:a1.eval (.tmp 23)=.bool true:=by
        obtain ⟨G,hr⟩:=hr1
        have:=hr.tm 23 (by rw [hXN];decide)
        rw [h23] at this
        exact cvBool.1 this
      refine wp_cond_true e23 (wp_seq (wp_seq (wp_mono (region_keep tyT_ok hXN (hr1.weak hle1) (fun s=>s.tm 11=.d (.int (from_:Nat))) ?_) ?_)))
      · intro K hK
        unfold recTL
        repeat' (first | refine awp_seq ?_ | refine stp ?_ | refine blk_o (by decide) ?_ | (apply awp_condB;(focus (simp (disch:=(first | omega | (simp;omega))) only [go_sem,w64,chD];try exact rfl));first | with_reducible refine condOf_t ?_ | with_reducible refine condOf_f ?_) | (refine awp_region' tyT_ok ?_;intro K hK) | (refine awp_drawA ?_;intro K hK) | (with_reducible refine hK _ ?_;clear hK K) | (refine stq ?_;simp (disch:=(first | omega | (simp;omega))) only [go_sem,w64,chD]) | refine and_side ?_ | fail)
        simp (disch:=(first | omega | (simp;omega))) only [go_sem,w64]
      · rintro e a2 w2 ⟨rfl,⟨s2,h11,hr2⟩,hk2⟩
        show (Code.block _ _).wp _ _ a2 w2
        obtain ⟨G2,hr2⟩:=hr2
        obtain ⟨hch2,hO2,hst2⟩:=rec_step hC hO hX hr2
        have h20:∀ t,t≤8→a2.tmps.getD t undef=a0.tmps.getD t undef:=fun t h2=>by
          rw [kept8 hk2 rfl h2,kept8 hk1 rfl h2]
        have hI0:∃ (k:Nat) (C':Nat→Nat→Prop) (hdr':Value),from_≤k∧k≤rows.length∧a2.tmps.size=90∧a2.defers=[]∧(∀ p∈recTL A B Cc rows right sg n fv ch,CV (gh C bo) w p.2 (a2.tmps.getD p.1 undef))∧a2.tmps.getD 11 undef=.int .i64 (k:Nat)∧ChR C C' w w2 bo hdr hdr'∧OutW C' w2 bo hdr' (foldC A B Cc rows right sg d from_ ch outs k)∧(foldC A B Cc rows right sg d from_ ch outs k).length+2 ^ (rows.length - k)≤16777216∧∀ y∈foldC A B Cc rows right sg d from_ ch outs k,y.length≤1048576:=by
          refine ⟨from_,G2.C,hdr,Nat.le_refl _,hfr,by rw [hr2.n,hXN],hr2.df,fun p hp=>?_,?_,hch2,?_⟩
          · rw [h20 p.1 (hpr p hp).2]
            exact hcv0 p hp
          · have:=hr2.tm 11 (by rw [hXN];decide)
            rw [h11] at this
            exact (cvInt.1 this).1
          · have e:foldC A B Cc rows right sg d from_ ch outs from_=outs:=by unfold foldC;rw [Nat.sub_self];rfl
            rw [e]
            exact ⟨hO2,hB,hol⟩
        clear h20 hch2 hO2 hst2 hr2 hk2 h11 hk1 hr1 hle1 h23 e23
        refine wp_block (wp_loop (fun a w'=>∃ (k:Nat) (C':Nat→Nat→Prop) (hdr':Value),from_≤k∧k≤rows.length∧a.tmps.size=90∧a.defers=[]∧(∀ p∈recTL A B Cc rows right sg n fv ch,CV (gh C bo) w p.2 (a.tmps.getD p.1 undef))∧a.tmps.getD 11 undef=.int .i64 (k:Nat)∧ChR C C' w w' bo hdr hdr'∧OutW C' w' bo hdr' (foldC A B Cc rows right sg d from_ ch outs k)∧(foldC A B Cc rows right sg d from_ ch outs k).length+2 ^ (rows.length - k)≤16777216∧∀ y∈foldC A B Cc rows right sg d from_ ch outs k,y.length≤1048576) (fun a _=>rows.length - (vI (a.tmps.getD 11 undef)).toNat) hI0 ?_)
        clear hI0
        rintro a w' ⟨k,C',hdr',hk1,hk2,hn,hd,hcv,h11,hcr,hO',hB',hol'⟩
        have hC':=hcr.cs
        have hstay:Stay C C' w w':=hcr.stay hC hO.noC (fun q hq=>(hO.own q hq).2.2)
        have hcv':∀ p∈recTL A B Cc rows right sg n fv ch,CV (gh C' bo) w' p.2 (a.tmps.getD p.1 undef):=fun p hp=>CV.keep (G:=gh C bo) (G':=gh C' bo) (w:=w) (w':=w') ⟨hstay,fun _ _=>⟨rfl,rfl,rfl⟩,fun _ _=>rfl⟩ (hcv p hp)
        obtain ⟨X2,hX2,hrel⟩:=rel_at (bo:=bo) hC' hn hd ((11,.d (.int (k:Nat))) :: recTL A B Cc rows right sg n fv ch) (fun p hp=>by
          rcases List.mem_cons.1 hp with rfl | hp
          · exact cvInt.2 ⟨h11,by unfold I64;omega⟩
          · exact hcv' p hp)
        refine wp_seq (wp_seq (wp_mono (region_keep tyT_ok hX2.N hrel (fun s=>s.tm 28=.d (.bool (decide ((k:Int)<(rows.length:Nat))))∧SLe s (mkS ((11,.d (.int (k:Nat))) :: recTL A B Cc rows right sg n fv ch) [])) ?_) ?_))
        · intro K hK
          have hrl:(rows.map ratsD).length=rows.length:=List.length_map ..
          unfold recTL at hK ⊢
          repeat' (first | refine awp_seq ?_ | refine stp ?_ | refine blk_o (by decide) ?_ | (apply awp_condB;(focus (simp (disch:=(first | omega | (simp;omega))) only [go_sem,w64,chD,matD,hrl];try exact rfl));first | with_reducible refine condOf_t ?_ | with_reducible refine condOf_f ?_) | (refine awp_region' tyT_ok ?_;intro K hK) | (refine awp_drawA ?_;intro K hK) | (with_reducible refine hK _ ?_;clear hK K) | (refine stq ?_;simp (disch:=(first | omega | (simp;omega))) only [go_sem,w64,chD,matD,hrl]) | refine and_side ?_ | fail)
          (refine sle_mk ?_ ?_ <;> simp (disch:=(first | omega | (simp;omega))) only [go_sem,w64,chD,matD] <;> exact leafs)
        · rintro e a3 w3 ⟨rfl,⟨s3,⟨h28,hle3⟩,hr3⟩,hk3⟩
          show (Code.cond _ _ _).wp _ _ a3 w3
          have e28:a3.eval (.tmp 28)=.bool (decide ((k:Int)<(rows.length:Nat))):=by
            obtain ⟨G,hr⟩:=hr3
            have:=hr.tm 28 (by rw [hX2.N];decide)
            rw [h28] at this
            exact cvBool.1 this
          replace hr3:=hr3.weak hle3
          by_cases hkT:k<rows.length
          · rw [decide_eq_true (by omega)] at e28
            refine wp_cond_true e28 (wp_skip ?_)
            show (Code.seq _ _).wp _ _ a3 w3
            obtain ⟨G3,hr3⟩:=hr3
            refine wp_seq (wp_block (wp_drawLast tyF_ok (by kernel_rfl) 8 rfl rfl rfl (by kernel_rfl) (by kernel_rfl) (X:=X2) (s:=mkS ((11,.d (.int (k:Nat))) :: recTL A B Cc rows right sg n fv ch) []) (K:=fun s=>s.tm 31=.d (.hv fv)∧s.tm 33=.d (.int ((k+1:Nat):Int))∧∃ g T,s.tm 38=.buf g T 1 ((ch ++ [k]).map fun k:Nat=>DV.int k)) ⟨G3,hr3.drew⟩ ?_ ?_))
            · rw [hX2.N]
              suffices hw:∀ KK:AS→Prop,(∀ s,(s.tm 31=.d (.hv fv)∧s.tm 33=.d (.int ((k+1:Nat):Int))∧∃ g T,s.tm 38=.buf g T 1 ((ch ++ [k]).map fun k:Nat=>DV.int k))→KK s)→wops tyF 90 _ _ 0 _ KK from hw _ fun _ h=>h
              intro K hK
              simp only [List.take_succ_cons,List.take_zero]
              have zk:IntKind.i64.wrap ((k:Int)+1)=((k+1:Nat):Int):=by rw [w64 (by omega)];rfl
              unfold recTL
              repeat' (first | refine awp_seq ?_ | refine stp ?_ | refine blk_o (by decide) ?_ | (apply awp_condB;(focus (simp (disch:=(first | omega | (simp;omega))) only [go_sem,w64,chD,zk,tyF];try exact rfl));first | with_reducible refine condOf_t ?_ | with_reducible refine condOf_f ?_) | (refine awp_region' tyT_ok ?_;intro K hK) | (refine awp_drawA ?_;intro K hK) | (with_reducible refine hK _ ?_;clear hK K) | (refine stq ?_;simp (disch:=(first | omega | (simp;omega))) only [go_sem,w64,chD,zk,tyF]) | refine and_side ?_ | fail)
              (first | refine callA (implCopyI (ch.map fun k:Nat=>DV.int k) (by rw [hchl];omega) (chD_el ch)) ?_ | refine callD (implCopyI (ch.map fun k:Nat=>DV.int k) (by rw [hchl];omega) (chD_el ch)) ?_ | refine callE (implCopyI (ch.map fun k:Nat=>DV.int k) (by rw [hchl];omega) (chD_el ch)) ?_ | refine callF (implCopyI (ch.map fun k:Nat=>DV.int k) (by rw [hchl];omega) (chD_el ch)) ?_ ?_)
              repeat' (first | refine awp_seq ?_ | refine stp ?_ | refine blk_o (by decide) ?_ | (apply awp_condB;(focus (simp (disch:=(first | omega | (simp;omega))) only [go_sem,w64,chD,hchl,tyF];try exact rfl));first | with_reducible refine condOf_t ?_ | with_reducible refine condOf_f ?_) | (refine awp_region' tyT_ok ?_;intro K hK) | (refine awp_drawA ?_;intro K hK) | (with_reducible refine hK _ ?_;clear hK K) | (refine stq ?_;simp (disch:=(first | omega | (simp;omega))) only [go_sem,w64,chD,hchl,tyF]) | refine and_side ?_ | fail)
              exact ⟨35,_,by rw [List.map_append];rfl⟩
            · rintro s4 a4 w4 ⟨h31,h33,g,T,h38⟩ ⟨G4,hr4⟩ hk4
              obtain ⟨hch4,hO4,hst4⟩:=rec_step hC' hO' hX2 hr4
              have hE4:=env_stay (hstay.trans hst4) hE
              have e31:a4.eval (.tmp 31)=fv:=by
                have h:=hr4.tm 31 (by rw [hX2.N];decide)
                rw [h31] at h
                obtain ⟨zs,⟨hz,_⟩,h2⟩:=h
                rcases h2 with ⟨⟨m,e⟩,_⟩ | ⟨_,h2⟩
                · cases e
                · rw [hz] at h2;cases h2;rfl
              have e33:a4.eval (.tmp 33)=.int .i64 ((k+1:Nat):Int):=by
                have h:=hr4.tm 33 (by rw [hX2.N];decide)
                rw [h33] at h
                exact (cvInt.1 h).1
              have e38:CX G4.C w4 (chD (ch ++ [k])) [a4.eval (.tmp 38)]:=by
                have h:=hr4.tm 38 (by rw [hX2.N];decide)
                rw [h38] at h
                exact wh_sl h.2.2.2
              have hp2:2 ^ (rows.length - k)=2 ^ (rows.length - (k+1))+2 ^ (rows.length - (k+1)):=by
                rw [show rows.length - k=(rows.length - (k+1))+1 by omega,Nat.pow_succ];omega
              have hcall:=ih (k+1) (ch ++ [k]) (foldC A B Cc rows right sg d from_ ch outs k) w4 G4.C hdr' (a4.eval (.tmp 38)) (by simp;omega) (by omega) (fun j hj=>by
                rcases List.mem_append.1 hj with h | h
                · exact hch j h
                · rw [List.mem_singleton.1 h];exact hkT) (by have h:=hB';rw [hp2] at h;generalize 2 ^ (rows.length - (k+1))=q at h ⊢;omega) hol' hr4.cs hO4 hE4 e38
              rw [hfv] at e31
              unfold Oper.wp
              rw [run_callV (x:=.tmp 33) (y:=.tmp 38) (f:=.tmp 31) rfl e31 Try.func45 rfl rfl]
              rw [e33,← List.append_assoc]
              refine hcall.mono ?_
              rintro e w5 ⟨v,C5,hdr5,rfl,hc5,hO5⟩
              show (Code.region _ _ _).wp _ _ (a4.put (some 39) v) w5
              have h4n:(a4.put (some 39) v).tmps.size=90:=by rw [← hX2.N,← hr4.n];simp [Act.put]
              have k3:∀ t,t≤8∨t=11→a3.tmps.getD t undef=a.tmps.getD t undef:=fun t ht=>kept11 hk3 rfl ht
              have hk4':KeptL (List.take 8 _) a3 a4:=hk4
              have k4:∀ t,t≤8∨t=11→a4.tmps.getD t undef=a3.tmps.getD t undef:=fun t ht=>kept11 hk4' rfl ht
              have k5:∀ t,t≤8∨t=11→(a4.put (some 39) v).tmps.getD t undef=a.tmps.getD t undef:=fun t ht=>by
                rw [keepD_put (some 39) a4 v t (fun e=>by cases e;omega),k4 t ht,k3 t ht]
              obtain ⟨X6,hX6,hrel6⟩:=rel_at (bo:=bo) (a:=a4.put (some 39) v) hc5.cs h4n hr4.df [(11,.d (.int (k:Nat)))] (fun p hp=>by
                rw [List.mem_singleton.1 hp]
                exact cvInt.2 ⟨by rw [k5 11 (.inr rfl)];exact h11,by unfold I64;omega⟩)
              refine wp_mono (region_keep tyT_ok hX6.N hrel6 (fun s=>s.tm 11=.d (.int ((k+1:Nat):Int))) ?_) ?_
              · intro K hK
                have zk:IntKind.i64.wrap ((k:Int)+1)=((k+1:Nat):Int):=by rw [w64 (by omega)];rfl
                repeat' (first | refine awp_seq ?_ | refine stp ?_ | refine blk_o (by decide) ?_ | (apply awp_condB;(focus (simp (disch:=(first | omega | (simp;omega))) only [go_sem,w64,zk];try exact rfl));first | with_reducible refine condOf_t ?_ | with_reducible refine condOf_f ?_) | (refine awp_region' tyT_ok ?_;intro K hK) | (refine awp_drawA ?_;intro K hK) | (with_reducible refine hK _ ?_;clear hK K) | (refine stq ?_;simp (disch:=(first | omega | (simp;omega))) only [go_sem,w64,zk]) | refine and_side ?_ | fail)
                simp (disch:=(first | omega | (simp;omega))) only [go_sem,w64]
              · rintro e a6 w6 ⟨rfl,⟨s6,h116,G6,hr6⟩,hk6⟩
                obtain ⟨hch6,hO6,hst6⟩:=rec_step hc5.cs hO5 hX6 hr6
                have e11:a6.tmps.getD 11 undef=.int .i64 ((k+1:Nat):Int):=by
                  have h:=hr6.tm 11 (by rw [hX6.N];decide)
                  rw [h116] at h
                  exact (cvInt.1 h).1
                have hc7:ChR C G6.C w w6 bo hdr hdr5:=((hcr.trans hch4 hO.lt hO'.noC (fun q hq=>(hO'.own q hq).2.2)).trans hc5 hO.lt hO4.noC (fun q hq=>(hO4.own q hq).2.2)).trans hch6 hO.lt hO5.noC (fun q hq=>(hO5.own q hq).2.2)
                refine ⟨⟨k+1,G6.C,hdr5,by omega,by omega,by rw [hr6.n,hX6.N],hr6.df,fun p hp=>?_,e11,hc7,?_⟩,?_⟩
                · rw [kept8 hk6 rfl (hpr p hp).2,k5 p.1 (.inl (hpr p hp).2)]
                  exact hcv p hp
                · rw [foldC_succ A B Cc rows right sg d from_ ch outs hk1]
                  refine ⟨hO6,?_,fun y hy=>?_⟩
                  · have h1:=chF_len A B Cc rows right sg d (k+1) (ch ++ [k]) (foldC A B Cc rows right sg d from_ ch outs k) (by omega)
                    rw [hp2] at hB'
                    generalize 2 ^ (rows.length - (k+1))=q at h1 hB' ⊢
                    omega
                  · rcases chF_mem A B Cc rows right sg d (k+1) (ch ++ [k]) _ y hy with h | h
                    · exact hol' y h
                    · rw [h];simp;omega
                · show rows.length - (vI (a6.tmps.getD 11 undef)).toNat<rows.length - (vI (a.tmps.getD 11 undef)).toNat
                  rw [e11,h11]
                  simp only [vI]
                  omega
          · obtain rfl:k=rows.length:=by omega
            rw [decide_eq_false (by omega)] at e28
            refine wp_cond_false e28 (wp_exit ?_)
            simp only [Exit.then,Exit.inBlock,if_true]
            obtain ⟨G3,hr3⟩:=hr3
            obtain ⟨hch3,hO3,hst3⟩:=rec_step hC' hO' hX2 hr3
            refine wp_ret ⟨hr3.df,_,res_choose a3 w3,_,G3.C,hdr',rfl,hcr.trans hch3 hO.lt hO'.noC (fun q hq=>(hO'.own q hq).2.2),?_⟩
            exact hO3
end
end Go.Proofs.Ytpbclpopoodklaa
