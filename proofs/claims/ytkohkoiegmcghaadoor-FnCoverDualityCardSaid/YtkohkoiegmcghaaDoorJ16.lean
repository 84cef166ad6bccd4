/- Lemmas for the proof of FnCoverDuality, part 16 of 26: no condition of their own. -/
import Derived.Test.YtkohkoiegmcghaaDoorJ15
import Derived.Test.YtkohkoiegmcghaaDoorJ10
import Derived.Test.YtkohkoiegmcghaaDoorJ13
import Derived.Test.YtkohkoiegmcghaaDoorJ12
namespace Go.Proofs.YtkohkoiegmcghaaDoor
set_option linter.unusedSimpArgs false
set_option linter.unusedVariables false
attribute [local go_sem ↓] reduceIte
attribute [local go_sem] Nat.reduceEqDiff Nat.reduceLT Nat.reduceAdd Nat.reduceLeDiff Nat.reduceMul Nat.reduceBEq Nat.reduceSub reduceCtorEq Int.reduceLE Int.reduceNeg Int.reduceLT
open Go.RowKit
theorem implCopyI (l:List DV) (hl:l.length≤1048576) (hel:elemsOK 1 l=true):AFn 84 [.d (.sl 1 l)] [] (fun r os=>r=.buf 0 3 1 l∧os=[]):=by
 refine afn_of (rv:=[.tmp 2]) tyT_ok Tryd.func84 rfl (by decide +kernel) Tryd.ntmps84 rfl (by simp) ?_
 repeat' (first | refine sq ?_ | refine stp ?_ | refine blk_o (by decide) ?_ | (apply cb;(focus (simp (disch:=(first | omega | (simp;omega))) only [go_sem,w64];try exact rfl));refine cok ?_) | (refine rgT ?_;intro K hK) | (refine dA ?_;intro K hK) | (with_reducible refine hK _ ?_;clear hK K) | (refine stq ?_;simp (disch:=(first | omega | (simp;omega))) only [go_sem,w64]) | refine as1 ?_ | fail)
 refine endG 3 (r:=.buf 0 3 1 l) ⟨rfl,rfl⟩
def tyF (T:TypeId):Option TyI:=if T=101 then some ⟨1,false,[.cst .nilFunc],[],none,[],false,false⟩ else tyT T
theorem tyF_ok:TabOK tyF:=by
 intro T i h
 unfold tyF at h
 by_cases e:T=101
 ·rw [if_pos e] at h
  cases h
  subst e
  have hu:∃ d,Tryd.prog.underlying 101=some d∧(∀ fs,d ≠ .struct fs)∧∀ n e,d ≠ .array n e:=⟨_,Tryd.underlying101,fun _ e=>(by cases e),fun _ _ e=>(by cases e)⟩
  obtain ⟨d,h1,h2,h3⟩:=hu
  have:=tyLeaf (z:=.nilFunc) (b:=8) (zs:=[.cst .nilFunc]) (by kernel_rfl) (by decide) ⟨_,_,rfl,⟨fun _ _=>rfl,fun _ _=>rfl⟩,rfl,rfl⟩ rfl h1 h2 h3
  exact ⟨this.info,this.agg,this.flat,fun d h=>(by cases h),this.pl⟩
 ·rw [if_neg e] at h
  exact tyT_ok T i h
theorem chD_el (ch:List Nat):elemsOK 1 (ch.map fun k:Nat=>DV.int k)=true:=by
 induction ch with
 | nil=>rfl
 | cons k l ih =>
  simp only [elemsOK,List.map_cons,List.all_cons,Bool.and_eq_true] at ih ⊢
  exact ⟨⟨rfl,rfl⟩,ih⟩
theorem res_choose (a:Act) (w:World):(results Tryd.f83 a.tmps).run Tryd.prog w=.ok (.tuple #[]) w:=by
 have h:Tryd.f83.results = #[]:=rfl
 unfold results
 rw [h]
 simp
theorem env_stay {A:List (List RatD)} {B Cc:List RatD} {rows:List (List RatD)} {right:List RatD} {sg:Int} {n:Nat} {fv:Value} {C C':Nat→Nat→Prop} {w w':World} {bo:Nat} {ptrs:List Value} (hst:Stay C C' w w') (h:CVs (gh C bo) w (envL A B Cc rows right sg n fv) ptrs):CVs (gh C' bo) w' (envL A B Cc rows right sg n fv) ptrs :=
 CVs.keep (G:=gh C bo) (G':=gh C' bo) (w:=w) (w':=w') ⟨hst,fun _ _=>⟨rfl,rfl,rfl⟩,fun _ _=>rfl⟩ h
section
variable {A:List (List RatD)} {B Cc:List RatD} {rows:List (List RatD)} {right:List RatD} {sg:Int} {n:Nat}
theorem choose_leaf (hR:RowsOK A B Cc rows right n) (hsg:sg=1∨sg = -1) {bo:Nat} {ptrs:List Value} {fv:Value} (hpl:ptrs.length=6) (from_:Nat) (ch:List Nat) (outs:List (List RatD)) (w:World) (C:Nat→Nat→Prop) (hdr vch:Value) (hl:ch.length=n) (hfr:from_≤rows.length) (hT:rows.length≤10) (hch:∀ k∈ch,k<rows.length) (hlen:outs.length≤16777215) (hol:∀ y∈outs,y.length≤1048576) (hC:∀ b i,C b i→b<w.heap.size) (hO:OutW C w bo hdr outs) (hE:CVs (gh C bo) w (envL A B Cc rows right sg n fv) ptrs) (hv:CX C w (chD ch) [vch]) :
 Calls Tryd.prog 83 ([Value.int .i64 (from_:Nat),vch] ++ ptrs ++ [Value.pointer (some ⟨bo,0,none⟩)]).toArray w (fun e w'=>∃ v C' hdr',e=.returned v∧ChR C C' w w' bo hdr hdr'∧OutW C' w' bo hdr' (leafF A B Cc rows right sg ch outs)):=by
 obtain ⟨C1,hC1d⟩:∃ C1:Nat→Nat→Prop,C1=fun b i=>C b i∨(hdr.ownBlock=some b∧i<outs.length):=⟨_,rfl⟩
 have hC1:∀ b i,C1 b i→b<w.heap.size:=fun b i h=>by
  rw [hC1d] at h
  rcases h with h | h
  ·exact hC b i h
  ·exact (hO.own b h.1).2.1
 have hst:Stay C C1 w w:=fun b i h=>⟨by rw [hC1d];exact .inl h,rfl⟩
 have hE1:=env_stay hst hE
 have hone:hdr.oneCell'=true:=by
  obtain ⟨a,m,c,vs,rfl,_⟩:=hO.buf
  rfl
 have hnC1:∀ i,¬ C1 bo i:=fun i h=>by
  rw [hC1d] at h
  rcases h with h | h
  ·exact hO.noC i h
  ·exact (hO.own bo h.1).1 rfl
 obtain ⟨X,hXN,hXw,hXL,hXC,hXA,hRel⟩:=rel_ent (N:=90) (w:=w) (G:=gh C1 bo) (args:=.d (.int (from_:Nat)) :: .d (chD ch) :: (envL A B Cc rows right sg n fv ++ [.ptr 0 0])) (os:=[[.d (.hv hdr)]]) (vs:=Value.int .i64 (from_:Nat) :: vch :: (ptrs ++ [Value.pointer (some ⟨bo,0,none⟩)])) ⟨Value.int .i64 (from_:Nat),vch :: (ptrs ++ [Value.pointer (some ⟨bo,0,none⟩)]),rfl,cvInt.2 ⟨rfl,by unfold I64;omega⟩,vch,ptrs ++ [Value.pointer (some ⟨bo,0,none⟩)],rfl,cvSl.2 (CX.stay hst _ _ hv),CVs.app hE1 (show CVs (gh C1 bo) w [.ptr 0 0] [Value.pointer (some ⟨bo,0,none⟩)] from ⟨_,_,rfl,rfl,rfl⟩)⟩ hC1 (fun i l hl=>by
  have hi:i=0:=by have:=(List.getElem?_eq_some_iff.1 hl).1;simpa using this
  subst hi
  simp only [List.getElem?_cons_zero,Option.some.injEq] at hl
  subst hl
  refine ⟨hO.lt,hnC1,[hdr],⟨hdr,[],rfl,⟨[hdr],⟨rfl,hone⟩,.inr ⟨fun m e=>(by cases e),rfl⟩⟩,rfl⟩,fun u hu=>by rw [List.mem_singleton.1 hu];exact hone,fun i u hu=>?_⟩
  have hi:i=0:=by have:=(List.getElem?_eq_some_iff.1 hu).1;simpa using this
  subst hi
  simp only [List.getElem?_cons_zero,Option.some.injEq] at hu
  subst hu
  exact ⟨hO.cell,hO.frz⟩) (fun i j hi hj _=>by simp at hi hj;omega) (by simp [envL])
 have hX:LeafX X C w bo hdr outs.length:=⟨hXw,fun b=>by rw [hXL];exact ⟨fun ⟨i,_,e⟩=>e.symm,fun e=>⟨0,by simp,e.symm⟩⟩,fun b i=>by rw [hXC];show C1 b i↔_;rw [hC1d],by rw [hXA];rfl⟩
 obtain ⟨c,hc,hcw⟩:=leaf_cw (X:=X) (sg:=sg) (fv:=fv) (from_:=(from_:Nat)) (R:=fun e w'=>∃ v C' hdr',e=.returned v∧ChR C C' w w' bo hdr hdr'∧OutW C' w' bo hdr' (leafF A B Cc rows right sg ch outs)) hR hsg hl hch hlen hol hC hO hX hXN
  (fun a w' h1 h2 h3 h4=>⟨h1,_,res_choose a w',_,C,hdr,rfl,h2,by rw [h4];exact h3⟩)
  (fun x h0 a w' h1 C' hdr' h2 h3=>⟨h1,_,res_choose a w',_,C',hdr',rfl,h2,by rw [h0];exact h3⟩)
 refine calls_of_wp Tryd.func83 hc (hcw _ w ?_)
 have hs:SLe (entS (.d (.int (from_:Nat)) :: .d (chD ch) :: (envL A B Cc rows right sg n fv ++ [.ptr 0 0])) [[.d (.hv hdr)]]) (leafS A B Cc rows right sg n fv hdr (from_:Nat) ch):=by
  unfold leafS envL
  (refine sle_mk ?_ ?_ <;> simp (disch:=(first | omega | (simp;omega))) only [go_sem,w64,chD] <;> exact leafs)
 have:=hRel.weak hs
 simpa using this
theorem run_callV {a:Act} {w:World} {o:Oper} {f x y:Operand} {ats:Array TypeId} {g:FuncId} {caps:List Value} {fn:Func} (ho:o.op=.call { callee:=.value f,args:=#[x,y],argTypes:=ats }) (hf:a.eval f=.func (.func g) #[] caps.toArray) (hfn:Tryd.prog.funcs[g]? = some fn) (hb1:(fn.name == "runtime.NumGoroutine")=false) (hb2:fn.body.isNone=false):(execOp a.eval o).run Tryd.prog w=.ok (.enter g ([a.eval x,a.eval y] ++ caps).toArray) w:=by
 have hb3:¬ fn.name = "runtime.NumGoroutine" := by simpa using hb1
 have hb4:¬ fn.body=none:=by intro e;rw [e] at hb2;cases hb2
 simp [execOp,ho,resolve,hf,Deferred.ofValue,invoke,callFunc,hfn,hb3,hb4]
def dHi (o:Oper):Bool:=match o.dst with
 | some d=>decide (8<d)
 | none=>true
theorem kept8 {l:List Oper} {a a':Act} (hk:KeptL l a a') (hb:l.all dHi=true) {t:Nat} (ht:t≤8):a'.tmps.getD t undef=a.tmps.getD t undef:=hk t fun o ho e=>by
 have:=List.all_eq_true.1 hb o ho
 unfold dHi at this
 rw [e] at this
 exact absurd (of_decide_eq_true this) (Nat.not_lt.2 ht)
def dHi11 (o:Oper):Bool:=match o.dst with
 | some d=>decide (8<d) && !decide (d=11)
 | none=>true
theorem kept11 {l:List Oper} {a a':Act} (hk:KeptL l a a') (hb:l.all dHi11=true) {t:Nat} (ht:t≤8∨t=11):a'.tmps.getD t undef=a.tmps.getD t undef:=hk t fun o ho e=>by
 have:=List.all_eq_true.1 hb o ho
 unfold dHi11 at this
 rw [e] at this
 simp only [Bool.and_eq_true,Bool.not_eq_true'] at this
 rcases ht with ht | ht
 ·exact absurd (of_decide_eq_true this.1) (Nat.not_lt.2 ht)
 ·exact of_decide_eq_false this.2 ht
def vI:Value→Int
 | .int _ x=>x
 | _=>0
def recTL (A:List (List RatD)) (B Cc:List RatD) (rows:List (List RatD)) (right:List RatD) (sg:Int) (n:Nat) (fv:Value) (ch:List Nat):List (Nat×AV):=[(1,.d (chD ch)),(2,.loc [.int (n:Nat)]),(3,.loc [matD rows]),(4,.loc [.hv fv]),(5,.loc [ratsD right]),(6,.loc [matD A,ratsD B,ratsD Cc]),(7,.loc [.int sg])]
def foldC (A:List (List RatD)) (B Cc:List RatD) (rows:List (List RatD)) (right:List RatD) (sg:Int) (d from_:Nat) (ch:List Nat) (outs:List (List RatD)) (k:Nat):List (List RatD):=(List.range' from_ (k - from_)).foldl (fun o j=>chF A B Cc rows right sg d (j+1) (ch ++ [j]) o) outs
theorem foldC_succ (A:List (List RatD)) (B Cc:List RatD) (rows:List (List RatD)) (right:List RatD) (sg:Int) (d from_:Nat) (ch:List Nat) (outs:List (List RatD)) {k:Nat} (h:from_≤k):foldC A B Cc rows right sg d from_ ch outs (k+1)=chF A B Cc rows right sg d (k+1) (ch ++ [k]) (foldC A B Cc rows right sg d from_ ch outs k):=by
 unfold foldC
 rw [show k+1 - from_=(k - from_)+1 by omega,List.range'_1_concat,List.foldl_append,show from_+(k - from_)=k by omega]
 rfl
set_option maxHeartbeats 4000000 in
theorem choose_calls (hR:RowsOK A B Cc rows right n) (hsg:sg=1∨sg = -1) {bo:Nat} {ptrs:List Value} {fv:Value} (hpl:ptrs.length=6) (hfv:fv=.func (.func 83) #[] (ptrs ++ [Value.pointer (some ⟨bo,0,none⟩)]).toArray) :
 ∀ (d from_:Nat) (ch:List Nat) (outs:List (List RatD)) (w:World) (C:Nat→Nat→Prop) (hdr vch:Value),ch.length+d=n→from_≤rows.length→(∀ k∈ch,k<rows.length)→outs.length+2 ^ (rows.length - from_)≤16777216→(∀ y∈outs,y.length≤1048576)→(∀ b i,C b i→b<w.heap.size)→OutW C w bo hdr outs→CVs (gh C bo) w (envL A B Cc rows right sg n fv) ptrs→CX C w (chD ch) [vch]→Calls Tryd.prog 83 ([Value.int .i64 (from_:Nat),vch] ++ ptrs ++ [Value.pointer (some ⟨bo,0,none⟩)]).toArray w (fun e w'=>∃ v C' hdr',e=.returned v∧ChR C C' w w' bo hdr hdr'∧OutW C' w' bo hdr' (chF A B Cc rows right sg d from_ ch outs)):=by
 have hT:=hR.T
 have hn5:=hR.n5
 intro d
 induction d with
 | zero =>
  intro from_ ch outs w C hdr vch hl hfr hch hB hol hC hO hE hv
  have:=Nat.one_le_two_pow (n:=rows.length - from_)
  exact choose_leaf hR hsg hpl from_ ch outs w C hdr vch (by omega) hfr hT hch (by omega) hol hC hO hE hv
 | succ d ih =>
  intro from_ ch outs w C hdr vch hl hfr hch hB hol hC hO hE hv
  have hchl:(ch.map fun k:Nat=>DV.int k).length=ch.length:=List.length_map ..
  obtain ⟨X,hXN,hXw,hXL,hXC,hXA,hRel⟩:=rel_ent (N:=90) (w:=w) (G:=gh C bo) (args:=.d (.int (from_:Nat)) :: .d (chD ch) :: (envL A B Cc rows right sg n fv ++ [.junk])) (os:=[]) (vs:=Value.int .i64 (from_:Nat) :: vch :: (ptrs ++ [Value.pointer (some ⟨bo,0,none⟩)])) ⟨Value.int .i64 (from_:Nat),vch :: (ptrs ++ [Value.pointer (some ⟨bo,0,none⟩)]),rfl,cvInt.2 ⟨rfl,by unfold I64;omega⟩,vch,ptrs ++ [Value.pointer (some ⟨bo,0,none⟩)],rfl,cvSl.2 hv,CVs.app hE (show CVs (gh C bo) w [.junk] [Value.pointer (some ⟨bo,0,none⟩)] from ⟨_,_,rfl,trivial,rfl⟩)⟩ hC (fun i l hl=>by simp at hl) (fun i j hi=>by simp at hi) (by simp [envL])
  have hX:RecX X C w:=⟨hXN,hXw,fun b=>by rw [hXL];exact fun ⟨i,hi,_⟩=>by simp at hi,fun b i=>by rw [hXC];exact Iff.rfl⟩
  have hS0:SLe (entS (.d (.int (from_:Nat)) :: .d (chD ch) :: (envL A B Cc rows right sg n fv ++ [.junk])) []) (mkS ((0,.d (.int (from_:Nat))) :: recTL A B Cc rows right sg n fv ch) []):=by
   unfold recTL envL
   (refine sle_mk ?_ ?_ <;> simp (disch:=(first | omega | (simp;omega))) only [go_sem,w64,chD] <;> exact leafs)
  replace hRel:=hRel.weak hS0
  obtain ⟨a0,ha0⟩:∃ a0:Act,a0 = { tmps:=(Value.int .i64 (from_:Nat) :: vch :: (ptrs ++ [Value.pointer (some ⟨bo,0,none⟩)])).toArray ++ Array.replicate (90 - (Value.int .i64 (from_:Nat) :: vch :: (ptrs ++ [Value.pointer (some ⟨bo,0,none⟩)])).toArray.size) undef,defers:=[] }:=⟨_,rfl⟩
  refine calls_of_wp Tryd.func83 (c:=_) rfl ?_
  have hact:({ tmps:=([Value.int .i64 (from_:Nat),vch] ++ ptrs ++ [Value.pointer (some ⟨bo,0,none⟩)]).toArray ++ Array.replicate (Tryd.f83.ntmps - ([Value.int .i64 (from_:Nat),vch] ++ ptrs ++ [Value.pointer (some ⟨bo,0,none⟩)]).toArray.size) undef,defers:=[] }:Act)=a0:=by
   rw [ha0]
   have:Tryd.f83.ntmps=90:=rfl
   rw [this]
   simp
  rw [hact]
  rw [← ha0] at hRel
  have hp0:∀ (t:Nat) (v:Value),(Value.int .i64 (from_:Nat) :: vch :: (ptrs ++ [Value.pointer (some ⟨bo,0,none⟩)]))[t]? = some v→a0.tmps.getD t undef=v:=fun t v h=>by
   rw [ha0]
   have ht:=(List.getElem?_eq_some_iff.1 h).1
   simp only [Array.getD_eq_getD_getElem?,Array.getElem?_append,List.size_toArray,if_pos ht,List.getElem?_toArray,h,Option.getD_some]
  have hpr:∀ p∈recTL A B Cc rows right sg n fv ch,1≤p.1∧p.1≤8:=fun p hp=>by
   simp only [recTL,List.mem_cons,List.not_mem_nil,or_false] at hp
   rcases hp with rfl | rfl | rfl | rfl | rfl | rfl | rfl <;> (constructor <;> simp)
  have hcv0:∀ p∈recTL A B Cc rows right sg n fv ch,CV (gh C bo) w p.2 (a0.tmps.getD p.1 undef):=fun p hp=>by
   have key:∀ (i:Nat) (x:AV),(envL A B Cc rows right sg n fv)[i]? = some x→CV (gh C bo) w x (a0.tmps.getD (i+2) undef):=fun i x hx=>by
    obtain ⟨v,h1,h2⟩:=hE.at i x hx
    rw [hp0 (i+2) v (by
     have hi:=(List.getElem?_eq_some_iff.1 h1).1
     simp only [List.getElem?_cons_succ,List.getElem?_append,if_pos hi,h1])]
    exact h2
   simp only [recTL,List.mem_cons,List.not_mem_nil,or_false] at hp
   rcases hp with rfl | rfl | rfl | rfl | rfl | rfl | rfl
   ·rw [hp0 1 vch rfl];exact cvSl.2 hv
   ·exact key 0 _ rfl
   ·exact key 1 _ rfl
   ·exact key 2 _ rfl
   ·exact key 3 _ rfl
   ·exact key 4 _ rfl
   ·exact key 5 _ rfl
  clear hact ha0
  refine wp_seq (wp_seq (wp_mono (region_keep tyT_ok hXN hRel (fun s=>s.tm 23=.d (.bool true)∧SLe s (mkS ((0,.d (.int (from_:Nat))) :: recTL A B Cc rows right sg n fv ch) [])) ?_) ?_))
  ·intro K hK
   have z1:decide ((ch.length:Int)<(n:Nat))=true:=decide_eq_true (by omega)
   unfold recTL at hK ⊢
   repeat' (first | refine sq ?_ | refine stp ?_ | refine blk_o (by decide) ?_ | (apply cb;(focus (simp (disch:=(first | omega | (simp;omega))) only [go_sem,w64,chD,hchl,z1];try exact rfl));refine cok ?_) | (refine rgT ?_;intro K hK) | (refine dA ?_;intro K hK) | (with_reducible refine hK _ ?_;clear hK K) | (refine stq ?_;simp (disch:=(first | omega | (simp;omega))) only [go_sem,w64,chD,hchl,z1]) | refine as1 ?_ | fail)
   (refine sle_mk ?_ ?_ <;> simp (disch:=(first | omega | (simp;omega))) only [go_sem,w64,chD] <;> exact leafs)
  ·rintro e a1 w1 ⟨rfl,⟨s1,⟨h23,hle1⟩,hr1⟩,hk1⟩
   show (Code.cond _ _ _).wp _ _ a1 w1
   have e23:a1.eval (.tmp 23)=.bool true:=by
    obtain ⟨G,hr⟩:=hr1
    have:=hr.tm 23 (by rw [hXN];decide)
    rw [h23] at this
    exact cvBool.1 this
   refine wp_cond_true e23 (wp_seq (wp_seq (wp_mono (region_keep tyT_ok hXN (hr1.weak hle1) (fun s=>s.tm 11=.d (.int (from_:Nat))) ?_) ?_)))
   ·intro K hK
    unfold recTL
    repeat' (first | refine sq ?_ | refine stp ?_ | refine blk_o (by decide) ?_ | (apply cb;(focus (simp (disch:=(first | omega | (simp;omega))) only [go_sem,w64,chD];try exact rfl));refine cok ?_) | (refine rgT ?_;intro K hK) | (refine dA ?_;intro K hK) | (with_reducible refine hK _ ?_;clear hK K) | (refine stq ?_;simp (disch:=(first | omega | (simp;omega))) only [go_sem,w64,chD]) | refine as1 ?_ | fail)
    simp (disch:=(first | omega | (simp;omega))) only [go_sem,w64]
   ·rintro e a2 w2 ⟨rfl,⟨s2,h11,hr2⟩,hk2⟩
    show (Code.block _ _).wp _ _ a2 w2
    obtain ⟨G2,hr2⟩:=hr2
    obtain ⟨hch2,hO2,hst2⟩:=rec_step hC hO hX hr2
    have h20:∀ t,t≤8→a2.tmps.getD t undef=a0.tmps.getD t undef:=fun t h2=>by
     rw [kept8 hk2 rfl h2,kept8 hk1 rfl h2]
    have hI0:∃ (k:Nat) (C':Nat→Nat→Prop) (hdr':Value),from_≤k∧k≤rows.length∧a2.tmps.size=90∧a2.defers=[]∧(∀ p∈recTL A B Cc rows right sg n fv ch,CV (gh C bo) w p.2 (a2.tmps.getD p.1 undef))∧a2.tmps.getD 11 undef=.int .i64 (k:Nat)∧ChR C C' w w2 bo hdr hdr'∧OutW C' w2 bo hdr' (foldC A B Cc rows right sg d from_ ch outs k)∧(foldC A B Cc rows right sg d from_ ch outs k).length+2 ^ (rows.length - k)≤16777216∧∀ y∈foldC A B Cc rows right sg d from_ ch outs k,y.length≤1048576:=by
     refine ⟨from_,G2.C,hdr,Nat.le_refl _,hfr,by rw [hr2.n,hXN],hr2.df,fun p hp=>?_,?_,hch2,?_⟩
     ·rw [h20 p.1 (hpr p hp).2]
      exact hcv0 p hp
     ·have:=hr2.tm 11 (by rw [hXN];decide)
      rw [h11] at this
      exact (cvInt.1 this).1
     ·have e:foldC A B Cc rows right sg d from_ ch outs from_=outs:=by unfold foldC;rw [Nat.sub_self];rfl
      rw [e]
      exact ⟨hO2,hB,hol⟩
    clear h20 hch2 hO2 hst2 hr2 hk2 h11 hk1 hr1 hle1 h23 e23
    refine wp_block (wp_loop (fun a w'=>∃ (k:Nat) (C':Nat→Nat→Prop) (hdr':Value),from_≤k∧k≤rows.length∧a.tmps.size=90∧a.defers=[]∧(∀ p∈recTL A B Cc rows right sg n fv ch,CV (gh C bo) w p.2 (a.tmps.getD p.1 undef))∧a.tmps.getD 11 undef=.int .i64 (k:Nat)∧ChR C C' w w' bo hdr hdr'∧OutW C' w' bo hdr' (foldC A B Cc rows right sg d from_ ch outs k)∧(foldC A B Cc rows right sg d from_ ch outs k).length+2 ^ (rows.length - k)≤16777216∧∀ y∈foldC A B Cc rows right sg d from_ ch outs k,y.length≤1048576) (fun a _=>rows.length - (vI (a.tmps.getD 11 undef)).toNat) hI0 ?_)
    clear hI0
    rintro a w' ⟨k,C',hdr',hk1,hk2,hn,hd,hcv,h11,hcr,hO',hB',hol'⟩
    have hC':=hcr.cs
    have hstay:Stay C C' w w':=hcr.stay hC hO.noC (fun q hq=>(hO.own q hq).2.2)
    have hcv':∀ p∈recTL A B Cc rows right sg n fv ch,CV (gh C' bo) w' p.2 (a.tmps.getD p.1 undef):=fun p hp=>CV.keep (G:=gh C bo) (G':=gh C' bo) (w:=w) (w':=w') ⟨hstay,fun _ _=>⟨rfl,rfl,rfl⟩,fun _ _=>rfl⟩ (hcv p hp)
    obtain ⟨X2,hX2,hrel⟩:=rel_at (bo:=bo) hC' hn hd ((11,.d (.int (k:Nat))) :: recTL A B Cc rows right sg n fv ch) (fun p hp=>by
     rcases List.mem_cons.1 hp with rfl | hp
     ·exact cvInt.2 ⟨h11,by unfold I64;omega⟩
     ·exact hcv' p hp)
    refine wp_seq (wp_seq (wp_mono (region_keep tyT_ok hX2.N hrel (fun s=>s.tm 28=.d (.bool (decide ((k:Int)<(rows.length:Nat))))∧SLe s (mkS ((11,.d (.int (k:Nat))) :: recTL A B Cc rows right sg n fv ch) [])) ?_) ?_))
    ·intro K hK
     have hrl:(rows.map ratsD).length=rows.length:=List.length_map ..
     unfold recTL at hK ⊢
     repeat' (first | refine sq ?_ | refine stp ?_ | refine blk_o (by decide) ?_ | (apply cb;(focus (simp (disch:=(first | omega | (simp;omega))) only [go_sem,w64,chD,matD,hrl];try exact rfl));refine cok ?_) | (refine rgT ?_;intro K hK) | (refine dA ?_;intro K hK) | (with_reducible refine hK _ ?_;clear hK K) | (refine stq ?_;simp (disch:=(first | omega | (simp;omega))) only [go_sem,w64,chD,matD,hrl]) | refine as1 ?_ | fail)
     (refine sle_mk ?_ ?_ <;> simp (disch:=(first | omega | (simp;omega))) only [go_sem,w64,chD,matD] <;> exact leafs)
    ·rintro e a3 w3 ⟨rfl,⟨s3,⟨h28,hle3⟩,hr3⟩,hk3⟩
     show (Code.cond _ _ _).wp _ _ a3 w3
     have e28:a3.eval (.tmp 28)=.bool (decide ((k:Int)<(rows.length:Nat))):=by
      obtain ⟨G,hr⟩:=hr3
      have:=hr.tm 28 (by rw [hX2.N];decide)
      rw [h28] at this
      exact cvBool.1 this
     replace hr3:=hr3.weak hle3
     by_cases hkT:k<rows.length
     ·rw [decide_eq_true (by omega)] at e28
      refine wp_cond_true e28 (wp_skip ?_)
      show (Code.seq _ _).wp _ _ a3 w3
      obtain ⟨G3,hr3⟩:=hr3
      refine wp_seq (wp_block (wp_drawLast tyF_ok (by kernel_rfl) 8 rfl rfl rfl (by kernel_rfl) (by kernel_rfl) (X:=X2) (s:=mkS ((11,.d (.int (k:Nat))) :: recTL A B Cc rows right sg n fv ch) []) (K:=fun s=>s.tm 31=.d (.hv fv)∧s.tm 33=.d (.int ((k+1:Nat):Int))∧∃ g T,s.tm 38=.buf g T 1 ((ch ++ [k]).map fun k:Nat=>DV.int k)) ⟨G3,hr3.drew⟩ ?_ ?_))
      ·rw [hX2.N]
       suffices hw:∀ KK:AS→Prop,(∀ s,(s.tm 31=.d (.hv fv)∧s.tm 33=.d (.int ((k+1:Nat):Int))∧∃ g T,s.tm 38=.buf g T 1 ((ch ++ [k]).map fun k:Nat=>DV.int k))→KK s)→wops tyF 90 _ _ 0 _ KK from hw _ fun _ h=>h
       intro K hK
       simp only [List.take_succ_cons,List.take_zero]
       have zk:IntKind.i64.wrap ((k:Int)+1)=((k+1:Nat):Int):=by rw [w64 (by omega)];rfl
       unfold recTL
       repeat' (first | refine sq ?_ | refine stp ?_ | refine blk_o (by decide) ?_ | (apply cb;(focus (simp (disch:=(first | omega | (simp;omega))) only [go_sem,w64,chD,zk,tyF];try exact rfl));refine cok ?_) | (refine rgT ?_;intro K hK) | (refine dA ?_;intro K hK) | (with_reducible refine hK _ ?_;clear hK K) | (refine stq ?_;simp (disch:=(first | omega | (simp;omega))) only [go_sem,w64,chD,zk,tyF]) | refine as1 ?_ | fail)
       (first | refine callA (implCopyI (ch.map fun k:Nat=>DV.int k) (by rw [hchl];omega) (chD_el ch)) ?_ | refine callD (implCopyI (ch.map fun k:Nat=>DV.int k) (by rw [hchl];omega) (chD_el ch)) ?_ | refine callE (implCopyI (ch.map fun k:Nat=>DV.int k) (by rw [hchl];omega) (chD_el ch)) ?_ | refine callF (implCopyI (ch.map fun k:Nat=>DV.int k) (by rw [hchl];omega) (chD_el ch)) ?_ ?_)
       repeat' (first | refine sq ?_ | refine stp ?_ | refine blk_o (by decide) ?_ | (apply cb;(focus (simp (disch:=(first | omega | (simp;omega))) only [go_sem,w64,chD,hchl,tyF];try exact rfl));refine cok ?_) | (refine rgT ?_;intro K hK) | (refine dA ?_;intro K hK) | (with_reducible refine hK _ ?_;clear hK K) | (refine stq ?_;simp (disch:=(first | omega | (simp;omega))) only [go_sem,w64,chD,hchl,tyF]) | refine as1 ?_ | fail)
       exact ⟨35,_,by rw [List.map_append];rfl⟩
      ·rintro s4 a4 w4 ⟨h31,h33,g,T,h38⟩ ⟨G4,hr4⟩ hk4
       obtain ⟨hch4,hO4,hst4⟩:=rec_step hC' hO' hX2 hr4
       have hE4:=env_stay (hstay.trans hst4) hE
       have e31:a4.eval (.tmp 31)=fv:=by
        have h:=hr4.tm 31 (by rw [hX2.N];decide)
        rw [h31] at h
        obtain ⟨zs,⟨hz,_⟩,h2⟩:=h
        rcases h2 with ⟨⟨m,e⟩,_⟩ | ⟨_,h2⟩
        ·cases e
        ·rw [hz] at h2;cases h2;rfl
       have e33:a4.eval (.tmp 33)=.int .i64 ((k+1:Nat):Int):=by
        have h:=hr4.tm 33 (by rw [hX2.N];decide)
        rw [h33] at h
        exact (cvInt.1 h).1
       have e38:CX G4.C w4 (chD (ch ++ [k])) [a4.eval (.tmp 38)]:=by
        have h:=hr4.tm 38 (by rw [hX2.N];decide)
        rw [h38] at h
        exact wh_sl h.2.2.2
       have hp2:2 ^ (rows.length - k)=2 ^ (rows.length - (k+1))+2 ^ (rows.length - (k+1)):=by
        rw [show rows.length - k=(rows.length - (k+1))+1 by omega,Nat.pow_succ];omega
       have hcall:=ih (k+1) (ch ++ [k]) (foldC A B Cc rows right sg d from_ ch outs k) w4 G4.C hdr' (a4.eval (.tmp 38)) (by simp;omega) (by omega) (fun j hj=>by
        rcases List.mem_append.1 hj with h | h
        ·exact hch j h
        ·rw [List.mem_singleton.1 h];exact hkT) (by have h:=hB';rw [hp2] at h;generalize 2 ^ (rows.length - (k+1))=q at h ⊢;omega) hol' hr4.cs hO4 hE4 e38
       rw [hfv] at e31
       unfold Oper.wp
       rw [run_callV (x:=.tmp 33) (y:=.tmp 38) (f:=.tmp 31) rfl e31 Tryd.func83 rfl rfl]
       rw [e33,← List.append_assoc]
       refine hcall.mono ?_
       rintro e w5 ⟨v,C5,hdr5,rfl,hc5,hO5⟩
       show (Code.region _ _ _).wp _ _ (a4.put (some 39) v) w5
       have h4n:(a4.put (some 39) v).tmps.size=90:=by rw [← hX2.N,← hr4.n];simp [Act.put]
       have k3:∀ t,t≤8∨t=11→a3.tmps.getD t undef=a.tmps.getD t undef:=fun t ht=>kept11 hk3 rfl ht
       have hk4':KeptL (List.take 8 _) a3 a4:=hk4
       have k4:∀ t,t≤8∨t=11→a4.tmps.getD t undef=a3.tmps.getD t undef:=fun t ht=>kept11 hk4' rfl ht
       have k5:∀ t,t≤8∨t=11→(a4.put (some 39) v).tmps.getD t undef=a.tmps.getD t undef:=fun t ht=>by
        rw [keepD_put (some 39) a4 v t (fun e=>by cases e;omega),k4 t ht,k3 t ht]
       obtain ⟨X6,hX6,hrel6⟩:=rel_at (bo:=bo) (a:=a4.put (some 39) v) hc5.cs h4n hr4.df [(11,.d (.int (k:Nat)))] (fun p hp=>by
        rw [List.mem_singleton.1 hp]
        exact cvInt.2 ⟨by rw [k5 11 (.inr rfl)];exact h11,by unfold I64;omega⟩)
       refine wp_mono (region_keep tyT_ok hX6.N hrel6 (fun s=>s.tm 11=.d (.int ((k+1:Nat):Int))) ?_) ?_
       ·intro K hK
        have zk:IntKind.i64.wrap ((k:Int)+1)=((k+1:Nat):Int):=by rw [w64 (by omega)];rfl
        repeat' (first | refine sq ?_ | refine stp ?_ | refine blk_o (by decide) ?_ | (apply cb;(focus (simp (disch:=(first | omega | (simp;omega))) only [go_sem,w64,zk];try exact rfl));refine cok ?_) | (refine rgT ?_;intro K hK) | (refine dA ?_;intro K hK) | (with_reducible refine hK _ ?_;clear hK K) | (refine stq ?_;simp (disch:=(first | omega | (simp;omega))) only [go_sem,w64,zk]) | refine as1 ?_ | fail)
        simp (disch:=(first | omega | (simp;omega))) only [go_sem,w64]
       ·rintro e a6 w6 ⟨rfl,⟨s6,h116,G6,hr6⟩,hk6⟩
        obtain ⟨hch6,hO6,hst6⟩:=rec_step hc5.cs hO5 hX6 hr6
        have e11:a6.tmps.getD 11 undef=.int .i64 ((k+1:Nat):Int):=by
         have h:=hr6.tm 11 (by rw [hX6.N];decide)
         rw [h116] at h
         exact (cvInt.1 h).1
        have hc7:ChR C G6.C w w6 bo hdr hdr5:=((hcr.trans hch4 hO.lt hO'.noC (fun q hq=>(hO'.own q hq).2.2)).trans hc5 hO.lt hO4.noC (fun q hq=>(hO4.own q hq).2.2)).trans hch6 hO.lt hO5.noC (fun q hq=>(hO5.own q hq).2.2)
        refine ⟨⟨k+1,G6.C,hdr5,by omega,by omega,by rw [hr6.n,hX6.N],hr6.df,fun p hp=>?_,e11,hc7,?_⟩,?_⟩
        ·rw [kept8 hk6 rfl (hpr p hp).2,k5 p.1 (.inl (hpr p hp).2)]
         exact hcv p hp
        ·rw [foldC_succ A B Cc rows right sg d from_ ch outs hk1]
         refine ⟨hO6,?_,fun y hy=>?_⟩
         ·have h1:=chF_len A B Cc rows right sg d (k+1) (ch ++ [k]) (foldC A B Cc rows right sg d from_ ch outs k) (by omega)
          rw [hp2] at hB'
          generalize 2 ^ (rows.length - (k+1))=q at h1 hB' ⊢
          omega
         ·rcases chF_mem A B Cc rows right sg d (k+1) (ch ++ [k]) _ y hy with h | h
          ·exact hol' y h
          ·rw [h];simp;omega
        ·show rows.length - (vI (a6.tmps.getD 11 undef)).toNat<rows.length - (vI (a.tmps.getD 11 undef)).toNat
         rw [e11,h11]
         simp only [vI]
         omega
     ·obtain rfl:k=rows.length:=by omega
      rw [decide_eq_false (by omega)] at e28
      refine wp_cond_false e28 (wp_exit ?_)
      simp only [Exit.then,Exit.inBlock,if_true]
      obtain ⟨G3,hr3⟩:=hr3
      obtain ⟨hch3,hO3,hst3⟩:=rec_step hC' hO' hX2 hr3
      refine wp_ret ⟨hr3.df,_,res_choose a3 w3,_,G3.C,hdr',rfl,hcr.trans hch3 hO.lt hO'.noC (fun q hq=>(hO'.own q hq).2.2),?_⟩
      exact hO3
end
end Go.Proofs.YtkohkoiegmcghaaDoor
namespace Go.Proofs.YtkohkoiegmcghaaDoor
set_option linter.unusedSimpArgs false
set_option linter.unusedVariables false
attribute [local go_sem ↓] reduceIte
attribute [local go_sem] Nat.reduceEqDiff Nat.reduceLT Nat.reduceAdd Nat.reduceLeDiff Nat.reduceMul Nat.reduceBEq Nat.reduceSub reduceCtorEq Int.reduceLE Int.reduceNeg Int.reduceLT
open Go.RowKit
theorem loc_of {G:Gh} {w:World} {q bo:Nat} {l:List AV} {C1:Nat→Nat→Prop} {ds:List DV} (ho:ObOK G w q l) (hl:∀ us,CVs G w l us→CXk C1 w 1 ds us) (hC:∀ i,i<l.length→C1 (G.ad q) i):CV (gh C1 bo) w (.loc ds) (.pointer (some ⟨G.ad q,0,none⟩)):=by
 obtain ⟨g1,g2,us,g3,g4,g5⟩:=ho
 refine ⟨G.ad q,0,us,rfl,hl us g3,fun i u hu=>?_⟩
 have hi:=(List.getElem?_eq_some_iff.1 hu).1
 rw [Nat.zero_add]
 exact ⟨hC i (by rw [← g3.len];exact hi),(g5 i u hu).1⟩
def capP:List AV:=[.ptr 5 0,.ptr 6 0,.ptr 12 0,.ptr 7 0,.ptr 2 0,.ptr 3 0,.ptr 11 0]
section
variable {A:List (List RatD)} {B Cc:List RatD} {rows:List (List RatD)} {right:List RatD} {sg:Int} {n:Nat}
theorem choose_rel (hR:RowsOK A B Cc rows right n) (hsg:sg=1∨sg = -1) {X:Cx} {G:Gh} {s:AS} {a:Act} {w:World} (hr:RelG X G s a w) (hN:12<X.N) {g6 g7:Nat} {T6 T7:TypeId} (h5:s.ob 5=some [.d (.int (n:Nat))]) (h6:s.ob 6=some [.buf g6 T6 1 (rows.map ratsD)]) (h12:s.ob 12=some [.fn 83 capP]) (h7:s.ob 7=some [.buf g7 T7 2 (right.map ratDV)]) (h2:s.ob 2=some [.d (matD A),.d (ratsD B),.d (ratsD Cc)]) (h3:s.ob 3=some [.d (.int sg)]) (h11:s.ob 11=some [.nil]) (ht11:s.tm 11=.ptr 11 0) {v:Value} (hv:CV G w (.fn 83 capP) v) :
 ∃ (ptrs:List Value),v=.func (.func 83) #[] ptrs.toArray∧Calls Tryd.prog 83 ([Value.int .i64 ((0:Nat):Int),Value.slice none 0 0] ++ ptrs).toArray w (fun e w'=>∃ r,e=.returned r∧∃ G',RelG X G' (mkS [(11,.ptr 11 0)] [(11,[.d (.wh 1 ((chF A B Cc rows right sg n 0 [] []).map whQ))])]) a w'):=by
 obtain ⟨bo,hbo⟩:∃ bo,bo=G.ad 11:=⟨_,rfl⟩
 obtain ⟨C1,hC1⟩:∃ C1:Nat→Nat→Prop,C1=fun b i=>G.C b i∨∃ q l,(q=5∨q=6∨q=12∨q=7∨q=2∨q=3)∧s.ob q=some l∧b=G.ad q∧i<l.length:=⟨_,rfl⟩
 have hin:∀ q l,(q=5∨q=6∨q=12∨q=7∨q=2∨q=3)→s.ob q=some l→∀ i,i<l.length→C1 (G.ad q) i:=fun q l hq hl i hi=>by rw [hC1];exact .inr ⟨q,l,hq,hl,rfl,hi⟩
 have hGC:∀ b i,G.C b i→C1 b i:=fun b i h=>by rw [hC1];exact .inl h
 have hlt:∀ b i,C1 b i→b<w.heap.size:=fun b i h=>by
  rw [hC1] at h
  rcases h with h | ⟨q,l,_,hl,rfl,_⟩
  ·exact hr.cs b i h
  ·exact (hr.ob q l hl).1
 have hst:Stay G.C C1 w w:=fun b i h=>⟨hGC b i h,rfl⟩
 have h11n:s.ob 11 ≠ none:=by rw [h11];exact fun x=>(by cases x)
 have hnC:∀ i,¬ C1 bo i:=fun i h=>by
  rw [hC1] at h
  rcases h with h | ⟨q,l,hq,hl,e,_⟩
  ·rw [hbo] at h;exact (hr.ob 11 _ h11).2.1 i h
  ·rw [hbo] at e
   have:=hr.d2 11 q h11n (by rw [hl];exact fun x=>(by cases x)) e
   omega
 obtain ⟨q1,q2,us11,q3,q4,q5⟩:=hr.ob 11 _ h11
 have hcell11:w.cell? ⟨bo,0,none⟩=some (.slice none 0 0)∧w.frozen? ⟨bo,0,none⟩=false:=by
  obtain ⟨u,us',rfl,hu,rfl⟩:=q3
  have hu:u=.slice none 0 0:=hu
  rw [hbo,← hu]
  exact q5 0 u rfl
 have hO:OutW C1 w bo (.slice none 0 0) []:=⟨by rw [hbo];exact q1,hnC,hcell11.1,hcell11.2,none,0,0,[],rfl,ownF_nil _ _ _ _,rfl,fun b hb=>by cases hb⟩
 obtain ⟨vs,hv1,hv2⟩:=hv
 obtain ⟨p5,u5,rfl,e5,hv2⟩:=hv2
 obtain ⟨p6,u6,rfl,e6,hv2⟩:=hv2
 obtain ⟨p12,u12,rfl,e12,hv2⟩:=hv2
 obtain ⟨p7,u7,rfl,e7,hv2⟩:=hv2
 obtain ⟨p2,u2,rfl,e2,hv2⟩:=hv2
 obtain ⟨p3,u3,rfl,e3,hv2⟩:=hv2
 obtain ⟨p11,u11,rfl,e11,hv2⟩:=hv2
 obtain rfl:=hv2
 simp only [CV] at e5 e6 e12 e7 e2 e3 e11
 subst e5;subst e6;subst e12;subst e7;subst e2;subst e3
 rw [← hbo] at e11
 subst e11
 have hfl:∀ (ds:List DV) (us:List Value),leaves ds=true→CVs G w (ds.map .d) us→CXk C1 w 1 ds us:=fun ds us hl h=>CXk.stay hst 1 _ _ (CXs.leaves hl (cvs_leaves hl h))
 have hE:CVs (gh C1 bo) w (envL A B Cc rows right sg n v) [.pointer (some ⟨G.ad 5,0,none⟩),.pointer (some ⟨G.ad 6,0,none⟩),.pointer (some ⟨G.ad 12,0,none⟩),.pointer (some ⟨G.ad 7,0,none⟩),.pointer (some ⟨G.ad 2,0,none⟩),.pointer (some ⟨G.ad 3,0,none⟩)]:=by
  refine ⟨_,_,rfl,loc_of (hr.ob 5 _ h5) (fun us h=>hfl [.int (n:Nat)] us rfl h) (hin 5 _ (by omega) h5),_,_,rfl,loc_of (hr.ob 6 _ h6) (fun us h=>?_) (hin 6 _ (by omega) h6),_,_,rfl,loc_of (hr.ob 12 _ h12) (fun us h=>?_) (hin 12 _ (by omega) h12),_,_,rfl,loc_of (hr.ob 7 _ h7) (fun us h=>?_) (hin 7 _ (by omega) h7),_,_,rfl,loc_of (hr.ob 2 _ h2) (fun us h=>hfl [matD A,ratsD B,ratsD Cc] us rfl h) (hin 2 _ (by omega) h2),_,_,rfl,loc_of (hr.ob 3 _ h3) (fun us h=>hfl [.int sg] us rfl h) (hin 3 _ (by omega) h3),rfl⟩
  ·obtain ⟨u,us',rfl,hu,rfl⟩:=h
   exact ⟨[u],[],rfl,CX.stay hst _ _ (wh_sl hu.2.2.2),rfl,rfl⟩
  ·obtain ⟨u,us',rfl,⟨vs,hu,hvs⟩,rfl⟩:=h
   have:u=v:=by
    rw [hu,hv1]
    obtain ⟨p5,u5,rfl,e5,hvs⟩:=hvs
    obtain ⟨p6,u6,rfl,e6,hvs⟩:=hvs
    obtain ⟨p12,u12,rfl,e12,hvs⟩:=hvs
    obtain ⟨p7,u7,rfl,e7,hvs⟩:=hvs
    obtain ⟨p2,u2,rfl,e2,hvs⟩:=hvs
    obtain ⟨p3,u3,rfl,e3,hvs⟩:=hvs
    obtain ⟨p11,u11,rfl,e11,hvs⟩:=hvs
    obtain rfl:=hvs
    simp only [CV] at e5 e6 e12 e7 e2 e3 e11
    rw [e5,e6,e12,e7,e2,e3,e11,hbo]
   rw [this]
   refine ⟨[v],[],rfl,⟨rfl,by rw [hv1];rfl⟩,rfl,rfl⟩
  ·obtain ⟨u,us',rfl,hu,rfl⟩:=h
   exact ⟨[u],[],rfl,CX.stay hst _ _ (wh_sl hu.2.2.2),rfl,rfl⟩
 refine ⟨_,hv1,?_⟩
 have hcall:=choose_calls hR hsg (bo:=bo) (ptrs:=[.pointer (some ⟨G.ad 5,0,none⟩),.pointer (some ⟨G.ad 6,0,none⟩),.pointer (some ⟨G.ad 12,0,none⟩),.pointer (some ⟨G.ad 7,0,none⟩),.pointer (some ⟨G.ad 2,0,none⟩),.pointer (some ⟨G.ad 3,0,none⟩)]) rfl hv1 n 0 [] [] w C1 (.slice none 0 0) (.slice none 0 0) (by simp) (Nat.zero_le _) (fun k hk=>by cases hk) (by
  have:=hR.T
  have h1:2 ^ (rows.length - 0)≤2 ^ 10:=Nat.pow_le_pow_right (by decide) (by omega)
  simp only [List.length_nil]
  omega) (fun y hy=>by cases hy) hlt hO hE (cx_nil _ _ _)
 refine Calls.mono hcall ?_
 rintro e w' ⟨r,C',hdr',rfl,hc,hO'⟩
 refine ⟨r,rfl,?_⟩
 generalize chF A B Cc rows right sg n 0 [] []=outs at hO'
 obtain ⟨a9,m9,c9,vs9,rfl,o1,o2,o3⟩:=hO'.buf
 have hown:=hO'.own
 have hml:vs9.length=outs.length:=by have:=o2.len;simpa using this
 have hvm:vs9.length=m9:=by have:=o1.1.1;simpa using this
 have hxfr:=hr.fr
 have hbo0:X.w0.heap.size≤bo:=by rw [hbo];exact (hr.ow 11 h11n).1 (by decide)
 have hboL:¬ X.L bo:=fun h=>by have:=X.hL bo h;omega
 have hblk:∀ k,k<w.heap.size→k ≠ bo→w'.heap[k]? = w.heap[k]?:=fun k hk h=>hc.block k hk h (fun e=>(by cases e))
 have hownw:∀ q,(Value.slice a9 m9 c9).ownBlock=some q→w.heap.size≤q:=fun q hq=>by
  rcases hc.own q hq with h | h
  ·cases h
  ·exact h
 obtain ⟨C2,hC2⟩:∃ C2:Nat→Nat→Prop,C2=fun b i=>C' b i∨(Value.slice a9 m9 c9).ownBlock=some b:=⟨_,rfl⟩
 have hcc:∀ b i,C' b i→C2 b i:=fun b i h=>by rw [hC2];exact .inl h
 have hC2lt:∀ b i,C2 b i→b<w'.heap.size:=fun b i h=>by
  rw [hC2] at h
  rcases h with h | h
  ·exact hc.cs b i h
  ·exact (hown b h).2.1
 have hnb:∀ i,¬ C2 bo i:=fun i h=>by
  rw [hC2] at h
  rcases h with h | h
  ·exact hO'.noC i h
  ·exact (hown bo h).1 rfl
 have hlow:∀ b i,C2 b i→b<w.heap.size→C1 b i:=fun b i h hb=>by
  rw [hC2] at h
  rcases h with h | h
  ·exact hc.lc b i h hb
  ·have:=hownw b h;omega
 have hC1X:∀ b i,C1 b i→b<X.w0.heap.size→X.C0 b i:=fun b i h hb=>by
  rw [hC1] at h
  rcases h with h | ⟨q,l,hq,hl,e,_⟩
  ·exact hr.lc b i h hb
  ·have:=(hr.ow q (by rw [hl];exact fun x=>(by cases x))).1 (by omega)
   omega
 have hC1f:∀ b i,C1 b i→X.w0.heap.size≤b→w.frozen? ⟨b,i,none⟩=false:=fun b i h hb=>by
  rw [hC1] at h
  rcases h with h | ⟨q,l,hq,hl,e,hi⟩
  ·exact hr.uf b i h hb
  ·obtain ⟨_,_,us,g3,_,g5⟩:=hr.ob q l hl
   have hiu:i<us.length:=by rw [g3.len];exact hi
   rw [e]
   exact (g5 i us[i] (List.getElem?_eq_getElem hiu)).2
 have hcx:CX C2 w' (.wh 1 (outs.map whQ)) [.slice a9 m9 c9]:=by
  obtain ⟨f1,f2,f3,f4,f5,f6⟩:=o1.flat
  refine ⟨a9,m9,c9,vs9,rfl,by rw [List.length_map];omega,CXk.stay (C:=C') (fun b i h=>⟨hcc b i h,rfl⟩) 1 _ _ o2,⟨f1,f2,f3,f6,f4,fun hn=>?_⟩,fun hn=>?_⟩
  ·obtain ⟨b,off,e1,_,hlt,e2⟩:=f5 hn
   obtain ⟨g0,r1,_,_⟩:=o1.head hn
   rw [r1] at e1
   simp only [Option.some.injEq,Addr.mk.injEq,and_true] at e1
   obtain ⟨rfl,rfl⟩:=e1
   refine ⟨g0,0,r1,fun i u hu=>⟨?_,e2 i u hu⟩⟩
   rw [hC2]
   exact .inr (by rw [r1];rfl)
  ·obtain ⟨g0,r1,_,_⟩:=o1.head hn
   exact ⟨g0,r1,0,fun i _=>by rw [hC2];exact .inr (by rw [r1];rfl)⟩
 let G':Gh:=⟨C2,fun _=>.slice none 0 0,fun _=>0,fun _=>0,fun _=>bo⟩
 refine ⟨G',⟨hc.os.trans hxfr.os,hc.tape.trans hxfr.tape,hc.output.trans hxfr.output,Nat.le_trans hxfr.size hc.size,fun b hb hl=>(hblk b (Nat.lt_of_lt_of_le hb hxfr.size) (by omega)).trans (hxfr.block b hb hl)⟩,hr.df,hr.n,fun t ht=>?_,fun g=>⟨none,0,0,[],rfl,ownF_nil _ _ _ _,fun b hb=>by cases hb⟩,fun o l ho=>?_,hC2lt,fun g g' _ _=>rfl,fun o o' ho ho' _=>?_,fun o g ho e=>(by cases e),fun o ho=>⟨fun _=>hbo0,.inl hbo0⟩,fun b i h hb=>hC1X b i (hlow b i h (Nat.lt_of_lt_of_le hb hxfr.size)) hb,fun b i h hl=>?_,fun i ho=>?_,fun b i h=>?_,fun b i h hz=>?_⟩
 ·show CV G' w' (if t=11 then .ptr 11 0 else .junk) _
  by_cases e:t=11
  ·rw [if_pos e,e]
   have:=hr.tm 11 (by omega)
   rw [ht11] at this
   show _=_
   rw [show a.tmps.getD 11 undef=.pointer (some ⟨G.ad 11,0,none⟩) from this,← hbo]
  ·rw [if_neg e];trivial
 ·have ho:(if o=11 then some [AV.d (.wh 1 (outs.map whQ))] else none)=some l:=ho
  by_cases e:o=11
  ·rw [if_pos e] at ho
   cases ho
   refine ⟨hO'.lt,hnb,[.slice a9 m9 c9],⟨_,[],rfl,cvWh.2 hcx,rfl⟩,fun u hu=>by rw [List.mem_singleton.1 hu];rfl,fun i u hu=>?_⟩
   have hi:i=0:=by have:=(List.getElem?_eq_some_iff.1 hu).1;simpa using this
   subst hi
   simp only [List.getElem?_cons_zero,Option.some.injEq] at hu
   subst hu
   exact ⟨hO'.cell,hO'.frz⟩
  ·rw [if_neg e] at ho;cases ho
 ·have key:∀ q,(mkS [(11,.ptr 11 0)] [(11,[AV.d (.wh 1 (outs.map whQ))])]).ob q ≠ none→q=11:=fun q hq=>by
   refine Classical.byContradiction fun hne=>hq ?_
   show (if q=11 then _ else none)=none
   rw [if_neg hne]
  rw [key o ho,key o' ho']
 ·have hlb:=X.hL b hl
  exact hr.nl b i (hr.c0 b i (hC1X b i (hlow b i h (Nat.lt_of_lt_of_le hlb hxfr.size)) hlb)) hl
 ·exfalso
  refine ho ?_
  show (if 1000000+i=11 then _ else none)=none
  rw [if_neg (by omega)]
 ·exact hcc b i (hc.cc b i (hGC b i (hr.c0 b i h)))
 ·have h:C2 b i:=h
  rw [hC2] at h
  have hz:X.w0.heap.size≤b:=hz
  rcases h with h | h
  ·by_cases e:b<w.heap.size
   ·have h1:=hc.lc b i h e
    rw [World.frozen?_of_block (w:=w) (hblk b e (fun e2=>hnC i (e2 ▸ h1)))]
    exact hC1f b i h1 hz
   ·exact hc.uf b i h (by omega)
  ·rcases o1.1.2 with ⟨r1,_⟩ | ⟨g0,cap,cur,r1,_⟩
   ·rw [r1] at h;cases h
   ·simp only [Value.slice.injEq] at r1
    obtain ⟨rfl,_,_⟩:=r1
    have:g0=b:=by have:=h;simpa [Value.ownBlock] using this
    subst this
    exact o1.free i
theorem lstep_choose (hR:RowsOK A B Cc rows right n) (hsg:sg=1∨sg = -1) {P:Cx→Prop} {N:Nat} (hN:60≤N∨52<N) {s:AS} {K:AS→Prop} {o:Oper} {g6 g7:Nat} {T6 T7:TypeId} {ats:Array TypeId} (ho:o.op=.call { callee:=.value (.tmp 51),args:=#[.const (.int .i64 0),.const (.slice none 0 0)],argTypes:=ats }) (hd:o.dst=some 52)
 (h51:s.tm 51=.fn 83 capP) (h5:s.ob 5=some [.d (.int (n:Nat))]) (h6:s.ob 6=some [.buf g6 T6 1 (rows.map ratsD)]) (h12:s.ob 12=some [.fn 83 capP]) (h7:s.ob 7=some [.buf g7 T7 2 (right.map ratDV)]) (h2:s.ob 2=some [.d (matD A),.d (ratsD B),.d (ratsD Cc)]) (h3:s.ob 3=some [.d (.int sg)]) (h11:s.ob 11=some [.nil]) (ht11:s.tm 11=.ptr 11 0)
 (hK:K ((mkS [(11,.ptr 11 0)] [(11,[.d (.wh 1 ((chF A B Cc rows right sg n 0 [] []).map whQ))])]).put 52 .junk)):LStep P N o s K:=by
 intro X G a w hNX _ hr nx Q hn
 have hv:=hr.tm 51 (by omega)
 rw [h51] at hv
 obtain ⟨ptrs,e1,hcall⟩:=choose_rel hR hsg hr (by omega) h5 h6 h12 h7 h2 h3 h11 ht11 hv
 unfold Oper.wp
 rw [run_callV ho e1 Tryd.func83 rfl rfl]
 refine Calls.mono hcall ?_
 rintro e w' ⟨r,rfl,G',hr'⟩
 rw [hd]
 exact hn _ _ _ hK ⟨G',hr'.put 52 trivial⟩
end
theorem implBitA (b:Bool):AFn 66 [.d (.bool b)] [] (fun r os=>r=.d (.int (if b=true then 1 else 0))∧os=[]):=by
 refine afn_of (rv:=[.tmp 2]) tyT_ok Tryd.func66 rfl (by decide +kernel) Tryd.ntmps66 rfl (by simp) ?_
 cases b with
 | false =>
  repeat' (first | refine sq ?_ | refine stp ?_ | refine blk_o (by decide) ?_ | (apply cb;(focus (simp (disch:=(first | omega | (simp;omega))) only [go_sem,w64];try exact rfl));refine cok ?_) | (refine rgT ?_;intro K hK) | (refine dA ?_;intro K hK) | (with_reducible refine hK _ ?_;clear hK K) | (refine stq ?_;simp (disch:=(first | omega | (simp;omega))) only [go_sem,w64]) | refine as1 ?_ | fail)
  (refine endA (r:=.d (.int 0)) ?_)
  exact ⟨rfl,rfl⟩
 | true =>
  repeat' (first | refine sq ?_ | refine stp ?_ | refine blk_o (by decide) ?_ | (apply cb;(focus (simp (disch:=(first | omega | (simp;omega))) only [go_sem,w64];try exact rfl));refine cok ?_) | (refine rgT ?_;intro K hK) | (refine dA ?_;intro K hK) | (with_reducible refine hK _ ?_;clear hK K) | (refine stq ?_;simp (disch:=(first | omega | (simp;omega))) only [go_sem,w64]) | refine as1 ?_ | fail)
  (refine endA (r:=.d (.int 1)) ?_)
  exact ⟨rfl,rfl⟩
set_option maxHeartbeats 4000000 in
theorem implVertA (A:List (List RatD)) (B Cc:List RatD) (sg:Int) (hlp:lpV A B Cc=true) (hsg:sg=1∨sg = -1):AFn 76 [.d (lpD A B Cc),.d (.int sg)] [] (fun r os=>r=.d (.wh 1 ((vertF A B Cc sg).map whQ))∧os=[]):=by
 have hRO:=rows_ok hlp
 obtain ⟨⟨hC1,hC5⟩,⟨hB1,hB5⟩,h3,h4,h5⟩:=lpV_out hlp
 obtain ⟨h6,h7⟩:=matOK_out h3
 refine afn_of (rv:=[.tmp 4]) tyT_ok Tryd.func76 rfl (by decide +kernel) Tryd.ntmps76 rfl (by simp) ?_
 have hcl:(Cc.map ratDV).length=Cc.length:=List.length_map ..
 have hal:(A.map ratsD).length=A.length:=List.length_map ..
 repeat' (first | refine sq ?_ | refine stp ?_ | refine blk_o (by decide) ?_ | (apply cb;(focus (simp (disch:=(first | omega | (simp;omega))) only [go_sem,w64,lpD,matD,ratsD,hcl,hal];try exact rfl));refine cok ?_) | (refine rgT ?_;intro K hK) | (refine dA ?_;intro K hK) | (with_reducible refine hK _ ?_;clear hK K) | (refine stq ?_;simp (disch:=(first | omega | (simp;omega))) only [go_sem,w64,lpD,matD,ratsD,hcl,hal]) | refine as1 ?_ | fail)
 (first | refine callA (implCopyQ B (by omega)) ?_ | refine callD (implCopyQ B (by omega)) ?_ | refine callE (implCopyQ B (by omega)) ?_ | refine callF (implCopyQ B (by omega)) ?_ ?_)
 repeat' (first | refine sq ?_ | refine stp ?_ | refine blk_o (by decide) ?_ | (apply cb;(focus (simp (disch:=(first | omega | (simp;omega))) only [go_sem,w64,lpD,matD,ratsD,hcl];try exact rfl));refine cok ?_) | (refine rgT ?_;intro K hK) | (refine dA ?_;intro K hK) | (with_reducible refine hK _ ?_;clear hK K) | (refine stq ?_;simp (disch:=(first | omega | (simp;omega))) only [go_sem,w64,lpD,matD,ratsD,hcl]) | refine as1 ?_ | fail)
 generalize hn:Cc.length=n at *
 refine awp_loopw (fun mm s=>∃ i:Nat,mm=n - i∧i≤n∧s=mkS [(2,.ptr 2 0),(3,.ptr 3 0),(5,.ptr 5 0),(6,.ptr 6 0),(7,.ptr 7 0),(8,.d (.int (i:Nat)))] [(2,[.d (matD A),.d (ratsD B),.d (ratsD Cc)]),(3,[.d (.int sg)]),(5,[.d (.int (n:Nat))]),(6,[.buf 16 28 1 ((A ++ (List.range i).map (unitR n)).map ratsD)]),(7,[.buf 22 33 2 ((B ++ List.replicate i (⟨0,1⟩:RatD)).map ratDV)])]) ?_ ?_
 ·refine ⟨_,_,?_,0,rfl,Nat.zero_le _,rfl⟩
  (refine sle_mk ?_ ?_ <;> simp (disch:=(first | omega | (simp;omega))) only [go_sem,w64,lpD,matD,ratsD,hcl,List.range_zero,List.map_nil,List.append_nil,List.replicate_zero] <;> exact leafs)
 ·rintro mm s ⟨i,rfl,hi,rfl⟩
  have hAl:(A ++ (List.range i).map (unitR n)).length=A.length+i:=by simp
  have hBl:(B ++ List.replicate i (⟨0,1⟩:RatD)).length=B.length+i:=by simp
  repeat' (first | refine sq ?_ | refine stp ?_ | refine blk_o (by decide) ?_ | (apply cb;(focus (simp (disch:=(first | omega | (simp;omega))) only [go_sem,w64];try exact rfl));refine cok ?_) | (refine rgT ?_;intro K hK) | (refine dA ?_;intro K hK) | (with_reducible refine hK _ ?_;clear hK K) | (refine stq ?_;simp (disch:=(first | omega | (simp;omega))) only [go_sem,w64]) | refine as1 ?_ | fail)
  refine awp_if (p:=(i:Int)<(n:Nat)) (by simp (disch:=(first | omega | (simp;omega))) only [go_sem,w64]) ?_ ?_ <;> intro hc
  ·have hi2:i<n:=by omega
   repeat' (first | refine sq ?_ | refine stp ?_ | refine blk_o (by decide) ?_ | (apply cb;(focus (simp (disch:=(first | omega | (simp;omega))) only [go_sem,w64];try exact rfl));refine cok ?_) | (refine rgT ?_;intro K hK) | (refine dA ?_;intro K hK) | (with_reducible refine hK _ ?_;clear hK K) | (refine stq ?_;simp (disch:=(first | omega | (simp;omega))) only [go_sem,w64]) | refine as1 ?_ | fail)
   refine awp_loopw (fun mm s=>∃ k:Nat,mm=n - k∧k≤n∧s=mkS [(2,.ptr 2 0),(3,.ptr 3 0),(5,.ptr 5 0),(6,.ptr 6 0),(7,.ptr 7 0),(8,.d (.int (i:Nat))),(9,.buf 28 33 2 (((List.range k).map fun j:Nat=>(⟨if i=j then 1 else 0,1⟩:RatD)).map ratDV)),(10,.d (.int (k:Nat)))] [(2,[.d (matD A),.d (ratsD B),.d (ratsD Cc)]),(3,[.d (.int sg)]),(5,[.d (.int (n:Nat))]),(6,[.buf 16 28 1 ((A ++ (List.range i).map (unitR n)).map ratsD)]),(7,[.buf 22 33 2 ((B ++ List.replicate i (⟨0,1⟩:RatD)).map ratDV)])]) ?_ ?_
   ·refine ⟨_,_,?_,0,rfl,Nat.zero_le _,rfl⟩
    (refine sle_mk ?_ ?_ <;> simp (disch:=(first | omega | (simp;omega))) only [go_sem,w64,List.range_zero,List.map_nil] <;> exact leafs)
   ·rintro mm s ⟨k,rfl,hk,rfl⟩
    have hkl:((List.range k).map fun j:Nat=>(⟨if i=j then 1 else 0,1⟩:RatD)).length=k:=by simp
    repeat' (first | refine sq ?_ | refine stp ?_ | refine blk_o (by decide) ?_ | (apply cb;(focus (simp (disch:=(first | omega | (simp;omega))) only [go_sem,w64];try exact rfl));refine cok ?_) | (refine rgT ?_;intro K hK) | (refine dA ?_;intro K hK) | (with_reducible refine hK _ ?_;clear hK K) | (refine stq ?_;simp (disch:=(first | omega | (simp;omega))) only [go_sem,w64]) | refine as1 ?_ | fail)
    refine awp_if (p:=(k:Int)<(n:Nat)) (by simp (disch:=(first | omega | (simp;omega))) only [go_sem,w64]) ?_ ?_ <;> intro hc2
    ·have hk2:k<n:=by omega
     repeat' (first | refine sq ?_ | refine stp ?_ | refine blk_o (by decide) ?_ | (apply cb;(focus (simp (disch:=(first | omega | (simp;omega))) only [go_sem,w64];try exact rfl));refine cok ?_) | (refine rgT ?_;intro K hK) | (refine dA ?_;intro K hK) | (with_reducible refine hK _ ?_;clear hK K) | (refine stq ?_;simp (disch:=(first | omega | (simp;omega))) only [go_sem,w64]) | refine as1 ?_ | fail)
     (first | refine callA (implBitA (decide ((i:Int)=(k:Nat)))) ?_ | refine callD (implBitA (decide ((i:Int)=(k:Nat)))) ?_ | refine callE (implBitA (decide ((i:Int)=(k:Nat)))) ?_ | refine callF (implBitA (decide ((i:Int)=(k:Nat)))) ?_ ?_)
     have e1:(if decide ((i:Int)=(k:Nat))=true then (1:Int) else 0)=if i=k then 1 else 0:=by
      by_cases h:i=k
      ·rw [if_pos (decide_eq_true (by omega)),if_pos h]
      ·rw [decide_eq_false (by omega),if_neg h];rfl
     rw [e1]
     repeat' (first | refine sq ?_ | refine stp ?_ | refine blk_o (by decide) ?_ | (apply cb;(focus (simp (disch:=(first | omega | (simp;omega))) only [go_sem,w64,hkl,ratDV];try exact rfl));refine cok ?_) | (refine rgT ?_;intro K hK) | (refine dA ?_;intro K hK) | (with_reducible refine hK _ ?_;clear hK K) | (refine stq ?_;simp (disch:=(first | omega | (simp;omega))) only [go_sem,w64,hkl,ratDV]) | refine as1 ?_ | fail)
     refine ⟨n - (k+1),_,by omega,?_,k+1,rfl,by omega,rfl⟩
     (refine sle_mk ?_ ?_ <;> simp (disch:=(first | omega | (simp;omega))) only [go_sem,w64,List.range_succ,List.map_append,List.map_cons,List.map_nil,ratDV] <;> exact leafs)
    ·obtain rfl:n=k:=by omega
     repeat' (first | refine sq ?_ | refine stp ?_ | refine blk_o (by decide) ?_ | (apply cb;(focus (simp (disch:=(first | omega | (simp;omega))) only [go_sem,w64,hkl,hAl,hBl,ratDV];try exact rfl));refine cok ?_) | (refine rgT ?_;intro K hK) | (refine dA ?_;intro K hK) | (with_reducible refine hK _ ?_;clear hK K) | (refine stq ?_;simp (disch:=(first | omega | (simp;omega))) only [go_sem,w64,hkl,hAl,hBl,ratDV]) | refine as1 ?_ | fail)
     refine ⟨n - (i+1),_,by omega,?_,i+1,rfl,by omega,rfl⟩
     have e1:A ++ (List.range (i+1)).map (unitR n)=(A ++ (List.range i).map (unitR n)) ++ [unitR n i]:=by rw [List.range_succ,List.map_append,List.append_assoc];rfl
     have e2:B ++ List.replicate (i+1) (⟨0,1⟩:RatD)=(B ++ List.replicate i (⟨0,1⟩:RatD)) ++ [⟨0,1⟩]:=by rw [List.replicate_succ',List.append_assoc]
     rw [e1,e2]
     (refine sle_mk ?_ ?_ <;> simp (disch:=(first | omega | (simp;omega))) only [go_sem,w64,List.map_append,List.map_cons,List.map_nil,ratDV,unitR] <;> exact leafs)
  ·obtain rfl:n=i:=by omega
   repeat' (first | refine sq ?_ | refine stp ?_ | refine blk_o (by decide) ?_ | (apply cb;(focus (simp (disch:=(first | omega | (simp;omega))) only [go_sem,w64];try exact rfl));refine cok ?_) | (with_reducible refine hK _ ?_;clear hK K) | (refine stq ?_;simp (disch:=(first | omega | (simp;omega))) only [go_sem,w64]) | refine as1 ?_ | fail)
   ((refine awp_region' tyT_ok ?_;intro K hK);repeat' (first | (with_reducible refine hK _ ?_;clear hK K) | (refine stq ?_;simp (disch:=(first | omega | (simp;omega))) only [go_sem,w64]) | refine as1 ?_ | fail))
   repeat' (first | refine sq ?_ | refine stp ?_ | refine blk_o (by decide) ?_ | (apply cb;(focus (simp (disch:=(first | omega | (simp;omega))) only [go_sem,w64];try exact rfl));refine cok ?_) | (with_reducible refine hK _ ?_;clear hK K) | (refine stq ?_;simp (disch:=(first | omega | (simp;omega))) only [go_sem,w64]) | refine as1 ?_ | fail)
   ((refine awp_region' tyF_ok ?_;intro K hK);repeat' (first | (with_reducible refine hK _ ?_;clear hK K) | (refine stq ?_;simp (disch:=(first | omega | (simp;omega))) only [go_sem,w64,tyF]) | refine as1 ?_ | fail))
   repeat' (first | refine sq ?_ | refine stp ?_ | refine blk_o (by decide) ?_ | (apply cb;(focus (simp (disch:=(first | omega | (simp;omega))) only [go_sem,w64];try exact rfl));refine cok ?_) | (with_reducible refine hK _ ?_;clear hK K) | (refine stq ?_;simp (disch:=(first | omega | (simp;omega))) only [go_sem,w64]) | refine as1 ?_ | fail)
   ((refine awp_region' tyF_ok ?_;intro K hK);repeat' (first | (with_reducible refine hK _ ?_;clear hK K) | (refine stq ?_;simp (disch:=(first | omega | (simp;omega))) only [go_sem,w64,tyF]) | refine as1 ?_ | fail))
   repeat' (first | refine sq ?_ | refine stp ?_ | refine blk_o (by decide) ?_ | (apply cb;(focus (simp (disch:=(first | omega | (simp;omega))) only [go_sem,w64];try exact rfl));refine cok ?_) | (with_reducible refine hK _ ?_;clear hK K) | (refine stq ?_;simp (disch:=(first | omega | (simp;omega))) only [go_sem,w64]) | refine as1 ?_ | fail)
   refine awp_regionX tyF_ok 1 rfl rfl ?_
   intro K hK
   simp only [List.take_succ_cons,List.take_zero,List.drop_succ_cons,List.drop_zero]
   have hRO2:RowsOK A B Cc (A ++ (List.range n).map (unitR n)) (B ++ List.replicate n (⟨0,1⟩:RatD)) n:=hRO
   have hvf:vertF A B Cc sg=chF A B Cc (A ++ (List.range n).map (unitR n)) (B ++ List.replicate n (⟨0,1⟩:RatD)) sg n 0 [] []:=by rw [← hn];rfl
   rw [hvf] at hK
   clear hvf hRO
   generalize A ++ (List.range n).map (unitR n)=rows at *
   generalize B ++ List.replicate n (⟨0,1⟩:RatD)=right at *
   have fin:K ((mkS [(11,.ptr 11 0)] [(11,[.d (.wh 1 ((chF A B Cc rows right sg n 0 [] []).map whQ))])]).put 52 .junk):=by
    refine hK _ ?_
    repeat' (first | refine sq ?_ | refine stp ?_ | refine blk_o (by decide) ?_ | (apply cb;(focus (simp (disch:=(first | omega | (simp;omega))) only [go_sem,w64];try exact rfl));refine cok ?_) | (refine rgT ?_;intro K hK) | (refine dA ?_;intro K hK) | (with_reducible refine hK _ ?_;clear hK K) | (refine stq ?_;simp (disch:=(first | omega | (simp;omega))) only [go_sem,w64]) | refine as1 ?_ | fail)
    (refine endA (r:=.d (.wh 1 ((chF A B Cc rows right sg n 0 [] []).map whQ))) ?_)
    exact ⟨rfl,rfl⟩
   clear hK
   generalize hlq:(fun s1:AS=>LStep _ _ _ s1 _)=LL
   refine aops_id ?_
   simp (disch:=(first | omega | (simp;omega))) only [go_sem,w64,tyF]
   rw [← hlq]
   refine lstep_choose (g6:=16) (g7:=22) (T6:=28) (T7:=33) hRO2 hsg (.inr (by decide)) rfl rfl ?_ ?_ ?_ ?_ ?_ ?_ ?_ ?_ ?_ ?_
   all_goals first
    | exact fin
    | (simp only [go_sem];done)
    | rfl
end Go.Proofs.YtkohkoiegmcghaaDoor
namespace Go.Proofs.YtkohkoiegmcghaaDoor
set_option linter.unusedSimpArgs false
set_option linter.unusedVariables false
open Go.RowKit
structure SubX (X X':Cx) (G:Gh) (w:World):Prop where
 w0:X'.w0=w
 L:∀ b,¬ X'.L b
 C0:∀ b i,X'.C0 b i↔G.C b i
 N:X'.N=X.N
end Go.Proofs.YtkohkoiegmcghaaDoor
namespace Go.Proofs.YtkohkoiegmcghaaDoor
set_option linter.unusedSimpArgs false
set_option linter.unusedVariables false
attribute [local go_sem ↓] reduceIte
attribute [local go_sem] Nat.reduceEqDiff Nat.reduceLT Nat.reduceAdd Nat.reduceLeDiff Nat.reduceMul Nat.reduceBEq Nat.reduceSub reduceCtorEq Int.reduceLE Int.reduceNeg Int.reduceLT
open Go.RowKit
def pickF (T:Nat):Nat→Nat→List (List Nat)
 | 0,_=>[[]]
 | n+1,k=>(List.range' k (T - n - k)).flatMap fun i=>(pickF T n (i+1)).map (i :: ·)
theorem pick_sum (T:Nat) (f:Nat→List (List Nat)):∀ (m k:Nat),k+m≤T→(∀ i,k≤i→i<k+m→(f i).length≤2 ^ (T - (i+1)))→((List.range' k m).flatMap f).length+2 ^ (T - (k+m))≤2 ^ (T - k)
 | 0,k,h,_=>by simp
 | m+1,k,h,hf=>by
  have h1:=pick_sum T f m (k+1) (by omega) (fun i hi hi2=>hf i (by omega) (by omega))
  have h2:=hf k (Nat.le_refl _) (by omega)
  rw [List.range'_succ,List.flatMap_cons,List.length_append]
  have e:2 ^ (T - k)=2 ^ (T - (k+1))+2 ^ (T - (k+1)):=by rw [show T - k=(T - (k+1))+1 by omega,Nat.pow_succ];omega
  rw [show k+1+m=k+(m+1) by omega] at h1
  rw [e];omega
theorem pickF_len (T:Nat):∀ (n k:Nat),k≤T→(pickF T n k).length≤2 ^ (T - k)
 | 0,k,_=>by simp only [pickF,List.length_cons,List.length_nil];exact Nat.one_le_two_pow
 | n+1,k,hk=>by
  simp only [pickF]
  by_cases h:k≤T - n
  ·have:=pick_sum T (fun i=>(pickF T n (i+1)).map (i :: ·)) (T - n - k) k (by omega) (fun i h1 h2=>by rw [List.length_map];exact pickF_len T n (i+1) (by omega))
   exact Nat.le_trans (Nat.le_add_right _ _) this
  ·rw [show T - n - k=0 by omega];simp
theorem pickF_mem (T:Nat):∀ (n k:Nat) (l:List Nat),l∈pickF T n k→l.length=n∧∀ x∈l,x<T
 | 0,k,l,h=>by simp only [pickF,List.mem_singleton] at h;subst h;exact ⟨rfl,fun x hx=>by cases hx⟩
 | n+1,k,l,h=>by
  simp only [pickF,List.mem_flatMap,List.mem_range'_1,List.mem_map] at h
  obtain ⟨i,⟨h1,h2⟩,l',h3,rfl⟩:=h
  obtain ⟨h4,h5⟩:=pickF_mem T n (i+1) l' h3
  refine ⟨by simp [h4],fun x hx=>?_⟩
  rcases List.mem_cons.1 hx with rfl | hx
  ·omega
  ·exact h5 x hx
theorem pow10 {T k:Nat} (h:T≤10):2 ^ (T - k)≤1024:=Nat.le_trans (Nat.pow_le_pow_right (by decide) (show T - k≤10 by omega)) (by decide)
end Go.Proofs.YtkohkoiegmcghaaDoor
namespace Go.Proofs.YtkohkoiegmcghaaDoor
set_option linter.unusedSimpArgs false
set_option linter.unusedVariables false
attribute [local go_sem ↓] reduceIte
attribute [local go_sem] Nat.reduceEqDiff Nat.reduceLT Nat.reduceAdd Nat.reduceLeDiff Nat.reduceMul Nat.reduceBEq Nat.reduceSub reduceCtorEq Int.reduceLE Int.reduceNeg Int.reduceLT
open Go.RowKit
section
variable (A:List (List RatD)) (B Cc:List RatD) (rows:List (List RatD)) (right:List RatD) (sg:Int)
theorem pickF_none {T d k:Nat} (h:T<d+k) (hd:0<d):pickF T d k=[]:=by
 cases d with
 | zero=>omega
 | succ d=>simp only [pickF];rw [show T - d - k=0 by omega];rfl
theorem chF_pick:∀ (d k:Nat) (ch:List Nat) (outs:List (List RatD)),chF A B Cc rows right sg d k ch outs=(pickF rows.length d k).foldl (fun o c=>leafF A B Cc rows right sg (ch ++ c) o) outs
 | 0,k,ch,outs=>by simp [chF,pickF]
 | d+1,k,ch,outs=>by
  simp only [chF,pickF]
  have key:∀ (m k:Nat) (outs:List (List RatD)),(List.range' k m).foldl (fun o j=>chF A B Cc rows right sg d (j+1) (ch ++ [j]) o) outs=((List.range' k m).flatMap fun i=>(pickF rows.length d (i+1)).map (i :: ·)).foldl (fun o c=>leafF A B Cc rows right sg (ch ++ c) o) outs:=by
   intro m
   induction m with
   | zero=>intro k outs;rfl
   | succ m ih =>
    intro k outs
    rw [List.range'_succ,List.foldl_cons,List.flatMap_cons,List.foldl_append,List.foldl_map,ih,chF_pick d (k+1) (ch ++ [k]) outs]
    congr 1
    congr 1
    funext o c
    rw [List.append_assoc];rfl
  rw [key]
  congr 1
  by_cases h:rows.length - d - k=rows.length - k
  ·rw [h]
  ·obtain ⟨m,hm⟩:∃ m,rows.length - k=(rows.length - d - k)+m:=⟨rows.length - k - (rows.length - d - k),by omega⟩
   rw [hm,← List.range'_append_1,List.flatMap_append]
   have:(List.range' (k+(rows.length - d - k)) m).flatMap (fun i=>(pickF rows.length d (i+1)).map (i :: ·))=[]:=by
    rw [List.flatMap_eq_nil_iff]
    intro i hi
    rw [List.mem_range'_1] at hi
    rw [pickF_none (by omega) (by omega)];rfl
   rw [this,List.append_nil]
end
end Go.Proofs.YtkohkoiegmcghaaDoor
namespace Go.Proofs.YtkohkoiegmcghaaDoor
set_option linter.unusedSimpArgs false
set_option linter.unusedVariables false
attribute [local go_sem ↓] reduceIte
attribute [local go_sem] Nat.reduceEqDiff Nat.reduceLT Nat.reduceAdd Nat.reduceLeDiff Nat.reduceMul Nat.reduceBEq Nat.reduceSub reduceCtorEq Int.reduceLE Int.reduceNeg Int.reduceLT
open Go.RowKit
theorem sameQ_self (x:RatD):sameQ x x=true:=by simp [sameQ]
theorem eqQ_self (x:List RatD):eqQ x x=true:=by
 unfold eqQ
 simp [sameQ_self]
theorem leafF_nd {A:List (List RatD)} {B Cc:List RatD} {rows:List (List RatD)} {right:List RatD} {sg:Int} {ch:List Nat} {outs:List (List RatD)} (h:outs.Nodup):(leafF A B Cc rows right sg ch outs).Nodup:=by
 unfold leafF
 split
 ·exact h
 ·rename_i x hx
  split
  ·split
   ·exact h
   ·rename_i hn
    rw [List.nodup_append]
    refine ⟨h,by simp,fun a ha b hb e=>?_⟩
    rw [List.mem_singleton.1 hb] at e
    subst e
    exact hn (List.any_eq_true.2 ⟨a,ha,eqQ_self a⟩)
  ·exact h
theorem foldl_inv {α β:Type} (P:α→Prop) (f:α→β→α):∀ (l:List β) (a:α),P a→(∀ a b,b∈l→P a→P (f a b))→P (l.foldl f a)
 | [],_,h,_=>h
 | b :: l,a,h,hf=>foldl_inv P f l (f a b) (hf a b (List.mem_cons_self ..) h) fun a c hc ha=>hf a c (List.mem_cons_of_mem _ hc) ha
theorem foldl_len {α β:Type} (f:List α→β→List α) (h:∀ a b,(f a b).length≤a.length+1):∀ (l:List β) (a:List α),(l.foldl f a).length≤a.length+l.length
 | [],a=>by simp
 | b :: l,a=>by
  have h1:=foldl_len f h l (f a b)
  have h2:=h a b
  simp only [List.foldl_cons,List.length_cons]
  omega
theorem vert_pick {A:List (List RatD)} {B Cc:List RatD} {sg:Int} (h:lpV A B Cc=true):vertF A B Cc sg=(pickF (B.length+Cc.length) Cc.length 0).foldl (fun o c=>leafF A B Cc (rowsF A Cc.length) (rightF B Cc.length) sg c o) []:=by
 obtain ⟨_,_,h3,_,_⟩:=lpV_out h
 obtain ⟨h6,_⟩:=matOK_out h3
 have hrl:(rowsF A Cc.length).length=B.length+Cc.length:=by simp [rowsF,h6]
 unfold vertF
 rw [chF_pick,hrl];rfl
theorem vert_law {A:List (List RatD)} {B Cc:List RatD} {sg:Int} (h:lpV A B Cc=true):(vertF A B Cc sg).Nodup∧(∀ y∈vertF A B Cc sg,y.length=Cc.length)∧(vertF A B Cc sg).length≤1024∧Cc.length≤5:=by
 obtain ⟨⟨hC1,hC5⟩,⟨hB1,hB5⟩,_,_,_⟩:=lpV_out h
 rw [vert_pick h]
 have hpm:=pickF_mem (B.length+Cc.length) Cc.length 0
 have hpl:=pickF_len (B.length+Cc.length) Cc.length 0 (Nat.zero_le _)
 have hp10:=pow10 (T:=B.length+Cc.length) (k:=0) (by omega)
 refine ⟨foldl_inv (fun o:List (List RatD)=>o.Nodup) _ _ _ List.nodup_nil (fun a b _ ha=>leafF_nd ha),foldl_inv (fun o:List (List RatD)=>∀ y∈o,y.length=Cc.length) _ _ _ (fun (y:List RatD) (hy:y∈([]:List (List RatD)))=>by cases hy) (fun a b hb ha y hy=>?_),?_,hC5⟩
 ·rcases leafF_mem A B Cc _ _ sg hy with h1 | h1
  ·exact ha y h1
  ·rw [h1];exact (hpm b hb).1
 ·have:=foldl_len (fun o c=>leafF A B Cc (rowsF A Cc.length) (rightF B Cc.length) sg c o) (fun a b=>leafF_len A B Cc _ _ sg b a) (pickF (B.length+Cc.length) Cc.length 0) []
  simp only [List.length_nil] at this
  omega
end Go.Proofs.YtkohkoiegmcghaaDoor
