/- Lemmas for the proof of FnExactMaximumPacking, part 12 of 15: no condition of their own. -/
import Derived.Test.YteiaofkgbdlpoaaDoorJ8
import Derived.Test.YteiaofkgbdlpoaaDoorJ10
import Derived.Test.YteiaofkgbdlpoaaDoorJ11
import Derived.Test.YteiaofkgbdlpoaaDoorJ1
import Derived.Test.YteiaofkgbdlpoaaDoorJ9
import Derived.Test.YteiaofkgbdlpoaaDoorJ2
namespace Go.Proofs.YteiaofkgbdlpoaaDoor
set_option linter.unusedSimpArgs false
set_option linter.unusedVariables false
open Go.RowKit
def GlobW (w:World):Prop:=w.cell? ⟨0,0,none⟩=some (.int .i64 1)∧w.cell? ⟨0,1,none⟩=some (.int .i64 1)
def GlobX (X:Cx):Prop:=GlobW X.w0∧¬ X.L 0
theorem GlobW.below {w w':World} (h:GlobW w) (hb:w'.heap[0]? = w.heap[0]?):GlobW w':=⟨by rw [World.cell?_of_block (w:=w) hb];exact h.1,by rw [World.cell?_of_block (w:=w) hb];exact h.2⟩
theorem GlobW.pos {w:World} (h:GlobW w):0<w.heap.size:=World.block_lt_of_cell? _ _ h.1
section
variable {X:Cx} {G:Gh} {s:AS} {a:Act} {w:World}
theorem RelG.glob (h:RelG X G s a w) (hP:GlobX X):GlobW w:=hP.1.below (h.fr.block 0 hP.1.pos hP.2)
end
def AFnG (f:FuncId) (args:List AV) (R:AV→List (List AV)→Prop):Prop :=
 FnOK f∧∀ (w:World) (G:Gh) (vs:List Value),GlobW w→CVs G w args vs→(∀ b i,G.C b i→b<w.heap.size) →
  Calls Tryd.prog f vs.toArray w (fun e w'=>∃ v r os' G',e=.returned v∧PostC 0 G w R v w' r os' G')
theorem afn_ofG {f N:Nat} {fn:Func} {c:Code} {args:List AV} {R:AV→List (List AV)→Prop} {ty:TypeId→Option TyI} {rv:List ResultVar} (ht:TabOK ty) (hf:Tryd.prog.funcs[f]? = some fn) (hb:fn.body=some c) (hnm:(fn.name == "runtime.NumGoroutine")=false)
 (hN:fn.ntmps=N) (hrv:fn.results.toList=rv) (hargs:args.length≤N) (h:AWp GlobX N c (EndA ty N 0 rv R) (entS args [])):AFnG f args R:=⟨⟨fn,hf,hnm,by rw [hb];rfl⟩,fun w G vs h0 h1 h2=>afn_core (os:=[]) ht hf hb hN hrv hargs h w G vs h1 h2 (fun i l hl=>by simp at hl) (fun i j hi=>absurd hi (Nat.not_lt_zero _)) (fun X hw _ _ hL=>⟨by rw [hw];exact h0,by rw [hL];rintro ⟨i,hi,_⟩;exact absurd hi (Nat.not_lt_zero _)⟩)⟩
section
variable {ty:TypeId→Option TyI} {N:Nat} {o:Oper} {s:AS} {K:AS→Prop}
theorem lloadG (ht:TabOK ty) {T:TypeId} {i:TyI} {d:Nat} (ho:o.op=.load T (.global 0)) (hd:o.dst=some d) (hi:ty T=some i) (ha:i.agg=true) (hsz:i.size=2) (h:K (s.put d (.d (.agg [.int 1,.int 1])))):LStep GlobX N o s K:=by
 intro X G a w hN hP hr
 obtain ⟨g1,g2⟩:=hr.glob hP
 obtain ⟨v,hrn,hv⟩:=run_loadVar (ht T i hi) (w:=w) (b:=0) (o:=0) (us:=[.int .i64 1,.int .i64 1]) (by rw [hsz];rfl) (fun j u hu=>by
  match j,hu with
  | 0,hu=>cases hu;simpa using g1
  | 1,hu=>cases hu;simpa using g2
  | j+2,hu=>simp at hu)
 rcases hv with ⟨_,rfl⟩ | ⟨h0,_⟩
 ·refine snd_val hr (x:=.d (.agg [.int 1,.int 1])) ?_ (cvAgg.2 ⟨[.int .i64 1,.int .i64 1],⟨[.int .i64 1],_,rfl,⟨rfl,by unfold I64;omega⟩,[.int .i64 1],[],rfl,⟨rfl,by unfold I64;omega⟩,rfl⟩,rfl⟩) (by rw [hd];exact h)
  simp only [execOp,ho,Instr.loadAt,Act.eval,Instr.sureAddr,Sem.run_bind,Sem.run_pure,Result.andThen_ok,hrn]
 ·rw [ha] at h0;cases h0
theorem lcallG {f:FuncId} {c:Call} {args:List AV} {R:AV→List (List AV)→Prop} (d:Nat) (ho:o.op=.call c) (hc:c.callee=.value (.func f)) (hd:o.dst=some d) (hdlt:d<1000000)
 (hA:AFnG f args R) (hsub:ASubs [] (evs N s c.args.toList) args) (h:∀ r os',R r os'→os'.length≤1∧K ((s.call [] d os').put d (renA [] d r))):LStep GlobX N o s K:=by
 intro X G a w hN hP hr nx Q hn
 subst hN
 obtain ⟨⟨fn,hfn,hb1,hb2⟩,hA⟩:=hA
 have hcv:=hsub.cv (hr.evs c.args.toList)
 have hcall:=hA w { G with ad:=fun i=>G.ad (([]:List Nat).getD i 0) } _ (hr.glob hP) hcv hr.cs
 have hrun:(execOp a.eval o).run Tryd.prog w=.ok (.enter f (c.args.toList.map a.eval).toArray) w:=by
  have hb3:¬ fn.name = "runtime.NumGoroutine" := by simpa using hb1
  have hb4:¬ fn.body=none:=by intro e;rw [e] at hb2;cases hb2
  simp [execOp,ho,resolve,hc,Act.eval,Deferred.ofValue,invoke,callFunc,hfn,hb3,hb4]
  rw [← Array.toList_map]
 unfold Oper.wp
 rw [hrun]
 simp only [Oper.upon]
 refine hcall.mono ?_
 rintro e0 w' ⟨v,r,os',G',rfl,hp⟩
 obtain ⟨h3,h4⟩:=h r os' hp.post
 obtain ⟨G2,h5,h6,_⟩:=hr.called (ns:=[]) hp (fun i hi=>absurd hi (Nat.not_lt_zero _)) (fun i hi=>absurd hi (Nat.not_lt_zero _)) (by simpa using h3) hdlt
 simp only
 rw [hd]
 exact hn _ _ _ h4 ⟨G2,h5.put d h6⟩
end
section
variable {P:Cx→Prop} {N:Nat} {Q:Exit→AS→Prop} {s:AS}
theorem awp_drawM {ty:TypeId→Option TyI} (ht:TabOK ty) (hm:Tryd.prog.follows .mixedOrders=true) {id:Nat} {l:List Oper} (n:Nat) {o:Oper} (ho:l[n]? = some o) (hg:o.guard=none)
 (hB:drawB l ((List.range l.length).map (flAt l))=true) (hR:(List.range n).all (fun j=>reachF l.toArray l.length n j)=true) (hR2:(List.range l.length).all (fun i=>decide (i≤n) || reachF l.toArray l.length i n)=true)
 (h:∀ K:AS→Prop,(∀ s,Q .normal s→K s)→wops ty N l (l.take n) 0 s (fun s1=>LStep P N o s1 (fun s2=>wops ty N l (l.drop (n+1)) (n+1) s2 K))):AWp P N (.region id l.toArray true) Q s:=by
 intro X a w hN hP ⟨G,hr⟩
 have hnl:n<l.length:=(List.getElem?_eq_some_iff.1 ho).1
 have hw:=wops_ok (ty:=ty) (N:=N) (ops:=l) (fls:=(List.range l.length).map (flAt l)) (fun i hi=>by simp [List.getD,hi]) (l.take n) 0 s (K:=fun s1=>LStep P N o s1 (fun s2=>wops ty N l (l.drop (n+1)) (n+1) s2 (Q .normal)))
 have hw2:=fun s2=>wops_ok (ty:=ty) (N:=N) (ops:=l) (fls:=(List.range l.length).map (flAt l)) (fun i hi=>by simp [List.getD,hi]) (l.drop (n+1)) (n+1) s2 (K:=Q .normal) (fun j hj=>by rw [List.getElem?_drop])
 have hlt:(l.take n).length=n:=by simp;omega
 generalize hfl:(List.range l.length).map (flAt l)=fls at hB hw hw2
 have hchk:∀ i o,l[i]? = some o→(∀ e∈o.after,Region.binds .any e=true→e.on<i)∧∀ j,j<i→reachF l.toArray l.length i j=true∨∀ p,l[j]? = some p→Ind l (fls.getD j []) (fls.getD i []) p o:=by
  intro i o ho
  have hi:=(List.getElem?_eq_some_iff.1 ho).1
  have:=List.all_eq_true.1 hB i (List.mem_range.2 hi)
  rw [ho] at this
  simp only [Bool.and_eq_true] at this
  refine ⟨fun e he hb=>?_,fun j hj=>?_⟩
  ·have h1:=List.all_eq_true.1 this.1 e (by simpa using he)
   rw [hb] at h1
   simpa using h1
  ·have h1:=List.all_eq_true.1 this.2 j (List.mem_range.2 hj)
   simp only [Bool.or_eq_true] at h1
   rcases h1 with h1 | h1
   ·exact .inl h1
   ·refine .inr fun p hp=>?_
    rw [hp] at h1
    exact ind_of h1
 have hcongr:∀ (d:Nat→Bool) (i m:Nat),(List.range m).filter (fun j=>!(if j=i then true else d j))=(List.range m).filter (fun j=>(fun j=>!d j) j && !(j == i)):=fun d i m=>by
  apply List.filter_congr
  intro x _
  by_cases ex:x=i
  ·simp [ex]
  ·simp [ex]
 refine wp_region_inv hm (fun d a' w'=>∃ s',Rel X s' a' w'∧(d n=false→(∀ j,n<j→d j=false)∧aopsD ty N l fls ((List.range n).filter fun i=>!d i) s' (fun s1=>LStep P N o s1 (fun s2=>wops ty N l (l.drop (n+1)) (n+1) s2 (Q .normal)))) ∧
  (d n=true→(∀ j,j<n→d j=true)∧aopsD ty N l fls ((List.range l.length).filter fun i=>!d i) s' (Q .normal))) (fun i o ho=>(hchk i o (by simpa using ho)).1) ?_ ?_ ?_
 ·refine ⟨s,⟨G,hr.drew⟩,fun _=>⟨fun _ _=>rfl,?_⟩,fun h=>(by cases h)⟩
  have:(List.range n).filter (fun i=>!(fun _=>false:Nat→Bool) i)=List.range n:=by simp
  rw [this,List.range_eq_range']
  have:=hw (fun j hj=>by rw [hlt] at hj;simp [List.getElem?_take,hj]) (h _ fun _ h=>h)
  rw [hlt] at this
  exact this
 ·rintro d a' w' i o' ho2 hd hdeps hcl hbig ⟨s',⟨G',hr'⟩,ha,hb⟩
  have ho':l[i]? = some o':=by simpa using ho2
  have hi:=(List.getElem?_eq_some_iff.1 ho').1
  have hreach:∀ j,reachF l.toArray l.length i j=true→d j=true:=fun j hj=>reachF_done (ops:=l.toArray) hcl l.length i j (fun o' h2=>by rw [ho2] at h2;cases h2;exact hdeps) hj
  by_cases hin:i=n
  ·subst hin
   obtain rfl:o=o':=by rw [ho] at ho';exact Option.some.inj ho'
   have hall:∀ j,j<i→d j=true:=fun j hj=>hreach j (List.all_eq_true.1 hR j (List.mem_range.2 hj))
   obtain ⟨hlater,ha⟩:=ha hd
   have e0:(List.range i).filter (fun i=>!d i)=[]:=by
    rw [List.filter_eq_nil_iff]
    intro x hx
    simp [hall x (List.mem_range.1 hx)]
   rw [e0] at ha
   unfold wpOp
   rw [ho2]
   simp only
   rw [if_pos (by simp [Region.wanted,hg])]
   refine .inl (ha X G' a' w' hN hP hr' _ _ fun s2 a2 w2 h3 h4=>⟨s2,h4,fun h=>by simp at h,fun _=>⟨fun j hj=>by simp [show ¬ j=i by omega,hall j hj],?_⟩⟩)
   have e1:(List.range l.length).filter (fun j=>!(if j=i then true else d j))=List.range' (i+1) (l.drop (i+1)).length:=by
    have hsp:List.range l.length=List.range (i+1) ++ List.range' (i+1) (l.length - (i+1)):=by
     have:=List.range'_append_1 (s:=0) (m:=i+1) (n:=l.length - (i+1))
     rw [List.range_eq_range',List.range_eq_range',show l.length=i+1+(l.length - (i+1)) by omega,← this]
     simp
    rw [hsp,List.filter_append,List.filter_eq_nil_iff.2,List.nil_append,List.filter_eq_self.2,List.length_drop]
    ·intro x hx
     have hx:=List.mem_range'_1.1 hx
     simp [show ¬ x=i by omega,hlater x (by omega)]
    ·intro x hx
     have hx:=List.mem_range.1 hx
     by_cases e:x=i
     ·simp [e]
     ·simp [e,hall x (by omega)]
   rw [e1]
   exact hw2 s2 h3
  ·cases hdn:d n with
   | true =>
    obtain ⟨hbef,hb⟩:=hb hdn
    have hin':n<i:=by
     refine Nat.lt_of_not_le fun hle=>?_
     have:=hbef i (by omega)
     rw [hd] at this;cases this
    obtain ⟨post,e1,e2⟩:=filter_split (fun j=>!d j) l.length i hi (by simp [hd])
    rw [e1] at hb
    have hfr:=front (ty:=ty) (N:=N) ht ho' _ s' (fun j hj p hp=>by
     obtain ⟨hj1,hj2⟩:=List.mem_filter.1 hj
     have hji:j<i:=List.mem_range.1 hj1
     rcases (hchk i o' ho').2 j hji with h1 | h1
     ·exfalso
      have:=hreach j h1
      rw [this] at hj2;cases hj2
     ·exact h1 p hp) hb
    refine stepD_ok ht hN hr' ho' hfr (fun s2 a2 w2 h2 h3=>⟨s2,h3,fun h=>?_,fun _=>⟨fun j hj=>?_,?_⟩⟩)
    ·simp only [if_neg (show ¬ n=i from fun e=>hin e.symm),hdn] at h;cases h
    ·simp [hbef j hj]
    ·rw [hcongr,e2];exact h2
   | false =>
    obtain ⟨hlater,ha⟩:=ha hdn
    have hin':i<n:=by
     refine Nat.lt_of_not_le fun hle=>?_
     have h1:=List.all_eq_true.1 hR2 i (List.mem_range.2 hi)
     simp only [Bool.or_eq_true,decide_eq_true_eq] at h1
     rcases h1 with h1 | h1
     ·omega
     ·have:=hreach n h1
      rw [hdn] at this;cases this
    obtain ⟨post,e1,e2⟩:=filter_split (fun j=>!d j) n i hin' (by simp [hd])
    rw [e1] at ha
    have hfr:=front (ty:=ty) (N:=N) ht ho' _ s' (fun j hj p hp=>by
     obtain ⟨hj1,hj2⟩:=List.mem_filter.1 hj
     have hji:j<i:=List.mem_range.1 hj1
     rcases (hchk i o' ho').2 j hji with h1 | h1
     ·exfalso
      have:=hreach j h1
      rw [this] at hj2;cases hj2
     ·exact h1 p hp) ha
    refine stepD_ok ht hN hr' ho' hfr (fun s2 a2 w2 h2 h3=>⟨s2,h3,fun _=>⟨fun j hj=>?_,?_⟩,fun h=>?_⟩)
    ·simp [show ¬ j=i by omega,hlater j hj]
    ·rw [hcongr,e2];exact h2
    ·simp only [if_neg (show ¬ n=i from fun e=>hin e.symm),hdn] at h;cases h
 ·rintro d a' w' hall hbig ⟨s',hr',ha,hb⟩
  have h1:=(hb (hall n (by simpa using hnl))).2
  have e0:(List.range l.length).filter (fun i=>!d i)=[]:=by
   rw [List.filter_eq_nil_iff]
   intro x hx
   simp [hall x (by simpa using hx)]
  rw [e0] at h1
  exact ⟨s',h1,hr'⟩
theorem awp_regionY {ty:TypeId→Option TyI} (ht:TabOK ty) {id:Nat} {l:List Oper} (i:Nat) {o:Oper} (hi:l[i]? = some o) (hg:o.guard=none) (h:∀ K K2:AS→Prop,(∀ s,Q .normal s→K s)→(∀ s,aops ty N l (l.drop (i+1)) s K→K2 s)→aops ty N l (l.take i) s (fun s1=>LStep P N o s1 K2)):AWp P N (.region id l.toArray false) Q s :=
 awp_regionX ht i hi hg fun K hK=>h K _ hK fun _ h=>h
theorem awp_drawY {ty:TypeId→Option TyI} (ht:TabOK ty) (hm:Tryd.prog.follows .mixedOrders=true) {id:Nat} {l:List Oper} (n:Nat) {o:Oper} (ho:l[n]? = some o) (hg:o.guard=none)
 (hB:drawB l ((List.range l.length).map (flAt l))=true) (hR:(List.range n).all (fun j=>reachF l.toArray l.length n j)=true) (hR2:(List.range l.length).all (fun i=>decide (i≤n) || reachF l.toArray l.length i n)=true)
 (h:∀ K K2:AS→Prop,(∀ s,Q .normal s→K s)→(∀ s,wops ty N l (l.drop (n+1)) (n+1) s K→K2 s)→wops ty N l (l.take n) 0 s (fun s1=>LStep P N o s1 K2)):AWp P N (.region id l.toArray true) Q s:=awp_drawM ht hm n ho hg hB hR hR2 fun K hK=>h K _ hK fun _ h=>h
end
end Go.Proofs.YteiaofkgbdlpoaaDoor
namespace Go.Proofs.YteiaofkgbdlpoaaDoor
set_option linter.unusedSimpArgs false
set_option linter.unusedVariables false
attribute [local go_sem ↓] reduceIte
attribute [local go_sem] Nat.reduceEqDiff Nat.reduceLT Nat.reduceAdd Nat.reduceLeDiff Nat.reduceMul Nat.reduceBEq Nat.reduceSub reduceCtorEq Int.reduceLE Int.reduceNeg Int.reduceLT
open Go.RowKit
abbrev q1:RatD:=⟨1,1⟩
noncomputable def occQ (x:AtomD) (v:Int):RatD:=⟨if occ x.vs v=true then 1 else 0,1⟩
noncomputable def rowC (xs:List AtomD) (v:Int):List RatD:=xs.map fun x=>occQ x v
theorem getDA' {xs:List AtomD} {i:Nat} {x:DV} (h:i<xs.length):(xs.map atomDV).getD i x=atomDV (ax xs i):=by simp [List.getD,ax,h]
theorem rep_succ {α:Type} (n:Nat) (x:α):List.replicate (n+1) x=List.replicate n x ++ [x]:=by rw [List.replicate_succ']
noncomputable def cvA (vs:List Int) (xs:List AtomD):List (List RatD):=vs.map (rowC xs)
theorem implDefA' (nv:Int) (xs:List AtomD) (us:List Int) (hn:NmOK xs):AFn 31 [.d (queryD nv xs us)] [] (fun r os=>r=.d (intsD (defF nv xs us))∧os=[]):=by
 refine own_afnG (fnOK (by kernel_rfl)) ?_
 rintro w G _ ⟨v1,_,rfl,h1,rfl⟩ hC
 obtain ⟨a,n,c,ua,un,uc,rfl,hI⟩:=cv_query hC hn h1
 exact implDefOrd nv a n c xs ua un uc us w hI (Nat.le_refl _)
noncomputable def cpF (nv:Int) (xs:List AtomD) (us:List Int):LpS:=if qOK nv xs us=true then ⟨cvA (idTo nv.toNat) xs,List.replicate nv.toNat q1,List.replicate xs.length q1,true⟩ else ⟨[],[],[],false⟩
theorem qOK_sz {nv:Int} {xs:List AtomD} {us:List Int} (h:qOK nv xs us=true):(1≤nv∧nv≤5)∧1≤xs.length∧xs.length≤4:=by
 obtain ⟨⟨v,n1,n2⟩,_⟩:=qOK_out h
 exact ⟨v,n1,by omega⟩
set_option maxHeartbeats 4000000 in
theorem specCoverA (nv:Int) (xs:List AtomD) (us:List Int) (hn:NmOK xs):AFn 7 [.d (queryD nv xs us)] [] (fun r os=>r=ansP (cpF nv xs us)∧os=[]):=by
 refine afn_of (rv:=[.cell 2 30,.tmp 3]) tyT_ok Tryd.func7 rfl (by decide +kernel) Tryd.ntmps7 rfl (by simp) ?_
 repeat' (first | refine sq ?_ | refine stp ?_ | refine blk_o (by decide) ?_ | (apply cb;(focus (simp (disch:=(first | omega | (simp;omega))) only [go_sem,w64,queryD,intsD];try exact rfl));refine cok ?_) | (refine rgT ?_;intro K hK) | (refine dA ?_;intro K hK) | (with_reducible refine hK _ ?_;clear hK K) | (refine stq ?_;simp (disch:=(first | omega | (simp;omega))) only [go_sem,w64,queryD,intsD]) | refine as1 ?_ | fail)
 (first | refine callA (specValidQA nv xs us hn) ?_ | refine callD (specValidQA nv xs us hn) ?_ | refine callE (specValidQA nv xs us hn) ?_ | refine callF (specValidQA nv xs us hn) ?_ ?_)
 cases hq:qOK nv xs us with
 | false =>
  repeat' (first | refine sq ?_ | refine stp ?_ | refine blk_o (by decide) ?_ | (apply cb;(focus (simp (disch:=(first | omega | (simp;omega))) only [go_sem,w64,hq];try exact rfl));refine cok ?_) | (refine rgT ?_;intro K hK) | (refine dA ?_;intro K hK) | (with_reducible refine hK _ ?_;clear hK K) | (refine stq ?_;simp (disch:=(first | omega | (simp;omega))) only [go_sem,w64,hq]) | refine as1 ?_ | fail)
  refine endA (r:=.tup [.d (.agg [.sl 1 [],.sl 2 [],.sl 2 []]),.d (.bool false)]) (h:=(by simp (disch:=(first | omega | (simp;omega))) only [go_sem,w64];exact noLp)) ?_
  exact ⟨by unfold cpF;rw [if_neg (by rw [hq];simp)];rfl,rfl⟩
 | true =>
  obtain ⟨⟨v1,v2⟩,x1,x2⟩:=qOK_sz hq
  obtain ⟨m,rfl⟩:∃ m:Nat,nv=m:=⟨nv.toNat,by omega⟩
  have hxm:(xs.map atomDV).length=xs.length:=List.length_map ..
  repeat' (first | refine sq ?_ | refine stp ?_ | refine blk_o (by decide) ?_ | (apply cb;(focus (simp (disch:=(first | omega | (simp;omega))) only [go_sem,w64,hq];try exact rfl));refine cok ?_) | (refine rgS ?_;intro K hK) | (refine dA ?_;intro K hK) | (with_reducible refine hK _ ?_;clear hK K) | (refine stq ?_;simp (disch:=(first | omega | (simp;omega))) only [go_sem,w64,hq]) | refine as1 ?_ | fail)
  refine awp_nilbufO 4 0 45 28 1 (l:=[.nil,.nil,.nil]) (by simp (disch:=(first | omega | (simp;omega))) only [go_sem,w64]) rfl ?_
  refine awp_nilbufO 4 1 51 43 2 (l:=[.buf 45 28 1 [],.nil,.nil]) (by simp (disch:=(first | omega | (simp;omega))) only [go_sem,w64]) rfl ?_
  refine awp_nilbufO 4 2 64 43 2 (l:=[.buf 45 28 1 [],.buf 51 43 2 [],.nil]) (by simp (disch:=(first | omega | (simp;omega))) only [go_sem,w64]) rfl ?_
  refine awp_loopw (fun mm s=>∃ i:Nat,mm=m - i∧i≤m∧s=mkS [(1,.ptr 1 0),(2,.ptr 2 0),(4,.ptr 4 0),(5,.d (.int (i:Nat)))] [(1,[.d (.int (m:Nat)),.d (.sl 2 (xs.map atomDV)),.d (.sl 1 (us.map .int))]),(2,[.nil,.nil,.nil]),(4,[.buf 45 28 1 ((cvA (idTo i) xs).map ratsD),.buf 51 43 2 ((List.replicate i q1).map ratDV),.buf 64 43 2 ([])])]) ?_ ?_
  ·refine ⟨_,_,?_,0,rfl,Nat.zero_le _,rfl⟩
   have e:cvA (idTo 0) xs=[]:=rfl
   (refine sle_mk ?_ ?_ <;> simp (disch:=(first | omega | (simp;omega))) only [go_sem,w64,e,List.map_nil,List.replicate_zero] <;> exact leafs)
  ·rintro mm s ⟨i,rfl,hi,rfl⟩
   have w4:IntKind.i64.wrap ((i:Int)+1)=((i+1:Nat):Int):=by rw [w64 (by omega)];rfl
   repeat' (first | refine sq ?_ | refine stp ?_ | refine blk_o (by decide) ?_ | (apply cb;(focus (simp (disch:=(first | omega | (simp;omega))) only [go_sem,w64];try exact rfl));refine cok ?_) | (refine rgT ?_;intro K hK) | (refine dA ?_;intro K hK) | (with_reducible refine hK _ ?_;clear hK K) | (refine stq ?_;simp (disch:=(first | omega | (simp;omega))) only [go_sem,w64]) | refine as1 ?_ | fail)
   refine awp_if (p:=(i:Int)<(m:Nat)) (by simp (disch:=(first | omega | (simp;omega))) only [go_sem,w64]) ?_ ?_ <;> intro hc
   ·have hb1:((cvA (idTo i) xs).map ratsD).length=i:=by simp [cvA,idTo_len]
    have hb2:((List.replicate i q1).map ratDV).length=i:=by simp
    have ht:cvA (idTo (i+1)) xs=cvA (idTo i) xs ++ [rowC xs i]:=by unfold cvA;rw [idTo_succ,List.map_append];rfl
    repeat' (first | refine sq ?_ | refine stp ?_ | refine blk_o (by decide) ?_ | (apply cb;(focus (simp (disch:=(first | omega | (simp;omega))) only [go_sem,w64,hxm];try exact rfl));refine cok ?_) | (refine rgT ?_;intro K hK) | (refine dA ?_;intro K hK) | (with_reducible refine hK _ ?_;clear hK K) | (refine stq ?_;simp (disch:=(first | omega | (simp;omega))) only [go_sem,w64,hxm]) | refine as1 ?_ | fail)
    refine awp_loopw (fun mm s=>∃ j:Nat,mm=xs.length - j∧j≤xs.length∧s=mkS [(1,.ptr 1 0),(2,.ptr 2 0),(4,.ptr 4 0),(5,.d (.int (i:Nat))),(6,.buf 21 43 2 (((xs.take j).map fun x=>occQ x i).map ratDV)),(7,.d (.int (j:Nat)))] [(1,[.d (.int (m:Nat)),.d (.sl 2 (xs.map atomDV)),.d (.sl 1 (us.map .int))]),(2,[.nil,.nil,.nil]),(4,[.buf 45 28 1 ((cvA (idTo i) xs).map ratsD),.buf 51 43 2 ((List.replicate i q1).map ratDV),.buf 64 43 2 ([])])]) ?_ ?_
    ·refine ⟨_,_,?_,0,rfl,Nat.zero_le _,rfl⟩
     (refine sle_mk ?_ ?_ <;> simp (disch:=(first | omega | (simp;omega))) only [go_sem,w64,List.take_zero,List.map_nil] <;> exact leafs)
    ·rintro mm s ⟨j,rfl,hj,rfl⟩
     have w5:IntKind.i64.wrap ((j:Int)+1)=((j+1:Nat):Int):=by rw [w64 (by omega)];rfl
     repeat' (first | refine sq ?_ | refine stp ?_ | refine blk_o (by decide) ?_ | (apply cb;(focus (simp (disch:=(first | omega | (simp;omega))) only [go_sem,w64,hxm];try exact rfl));refine cok ?_) | (refine rgT ?_;intro K hK) | (refine dA ?_;intro K hK) | (with_reducible refine hK _ ?_;clear hK K) | (refine stq ?_;simp (disch:=(first | omega | (simp;omega))) only [go_sem,w64,hxm]) | refine as1 ?_ | fail)
     refine awp_if (p:=(j:Int)<(xs.length:Nat)) (by simp (disch:=(first | omega | (simp;omega))) only [go_sem,w64,hxm]) ?_ ?_ <;> intro hc2
     ·have hj2:j<xs.length:=by omega
      have r0:(xs.map atomDV).getD j (.bool false)=atomDV (ax xs j):=getDA' hj2
      have ht2:=take_mapI (fun x=>occQ x i) xs ⟨⟨#[]⟩,[]⟩ hj2
      have hb:(((xs.take j).map fun x=>occQ x i).map ratDV).length=j:=by rw [List.length_map,List.length_map,List.length_take];omega
      have eax:xs.getD j ⟨⟨#[]⟩,[]⟩=ax xs j:=rfl
      rw [eax] at ht2
      generalize ax xs j=x at *
      have hh:=specHasA x i
      repeat' (first | refine sq ?_ | refine stp ?_ | refine blk_o (by decide) ?_ | (apply cb;(focus (simp (disch:=(first | omega | (simp;omega))) only [go_sem,w64,r0,atomDV,intsD,hxm];try exact rfl));refine cok ?_) | (refine rgT ?_;intro K hK) | (refine dA ?_;intro K hK) | (with_reducible refine hK _ ?_;clear hK K) | (refine stq ?_;simp (disch:=(first | omega | (simp;omega))) only [go_sem,w64,r0,atomDV,intsD,hxm]) | refine as1 ?_ | fail)
      (first | refine callA (hh) ?_ | refine callD (hh) ?_ | refine callE (hh) ?_ | refine callF (hh) ?_ ?_)
      cases hoc:occ x.vs i with
      | true =>
       have eo:occQ x i=⟨1,1⟩:=by unfold occQ;rw [hoc];rfl
       repeat' (first | refine sq ?_ | refine stp ?_ | refine blk_o (by decide) ?_ | (apply cb;(focus (simp (disch:=(first | omega | (simp;omega))) only [go_sem,w64,w5,hb,hxm];try exact rfl));refine cok ?_) | (refine rgT ?_;intro K hK) | (refine dA ?_;intro K hK) | (with_reducible refine hK _ ?_;clear hK K) | (refine stq ?_;simp (disch:=(first | omega | (simp;omega))) only [go_sem,w64,w5,hb,hxm]) | refine as1 ?_ | fail)
       refine ⟨xs.length - (j+1),_,by omega,?_,j+1,rfl,by omega,rfl⟩
       rw [ht2,List.map_append]
       (refine sle_mk ?_ ?_ <;> simp (disch:=(first | omega | (simp;omega))) only [go_sem,w64,List.map_cons,List.map_nil,eo,ratDV] <;> exact leafs)
      | false =>
       have eo:occQ x i=⟨0,1⟩:=by unfold occQ;rw [hoc];rfl
       repeat' (first | refine sq ?_ | refine stp ?_ | refine blk_o (by decide) ?_ | (apply cb;(focus (simp (disch:=(first | omega | (simp;omega))) only [go_sem,w64,w5,hb,hxm];try exact rfl));refine cok ?_) | (refine rgT ?_;intro K hK) | (refine dA ?_;intro K hK) | (with_reducible refine hK _ ?_;clear hK K) | (refine stq ?_;simp (disch:=(first | omega | (simp;omega))) only [go_sem,w64,w5,hb,hxm]) | refine as1 ?_ | fail)
       refine ⟨xs.length - (j+1),_,by omega,?_,j+1,rfl,by omega,rfl⟩
       rw [ht2,List.map_append]
       (refine sle_mk ?_ ?_ <;> simp (disch:=(first | omega | (simp;omega))) only [go_sem,w64,List.map_cons,List.map_nil,eo,ratDV] <;> exact leafs)
     ·obtain rfl:j=xs.length:=by omega
      have e1:(xs.take xs.length).map (fun x=>occQ x i)=rowC xs i:=by rw [List.take_length];rfl
      rw [e1]
      have hrm:((rowC xs i).map ratDV).length=xs.length:=by simp [rowC]
      repeat' (first | refine sq ?_ | refine stp ?_ | refine blk_o (by decide) ?_ | (apply cb;(focus (simp (disch:=(first | omega | (simp;omega))) only [go_sem,w64,hrm,hb1,hb2,w4,hxm];try exact rfl));refine cok ?_) | (refine rgT ?_;intro K hK) | (refine dA ?_;intro K hK) | (with_reducible refine hK _ ?_;clear hK K) | (refine stq ?_;simp (disch:=(first | omega | (simp;omega))) only [go_sem,w64,hrm,hb1,hb2,w4,hxm]) | refine as1 ?_ | fail)
      refine ⟨m - (i+1),_,by omega,?_,i+1,rfl,by omega,rfl⟩
      rw [ht,rep_succ,List.map_append,List.map_append]
      (refine sle_mk ?_ ?_ <;> simp (disch:=(first | omega | (simp;omega))) only [go_sem,w64,List.map_cons,List.map_nil,ratDV,q1] <;> exact leafs)
   ·obtain rfl:i=m:=by omega
    repeat' (first | refine sq ?_ | refine stp ?_ | refine blk_o (by decide) ?_ | (apply cb;(focus (simp (disch:=(first | omega | (simp;omega))) only [go_sem,w64];try exact rfl));refine cok ?_) | (refine rgT ?_;intro K hK) | (refine dA ?_;intro K hK) | (with_reducible refine hK _ ?_;clear hK K) | (refine stq ?_;simp (disch:=(first | omega | (simp;omega))) only [go_sem,w64]) | refine as1 ?_ | fail)
    refine awp_loopw (fun mm s=>∃ j:Nat,mm=xs.length - j∧j≤xs.length∧s=mkS [(1,.ptr 1 0),(2,.ptr 2 0),(4,.ptr 4 0),(9,.d (.int (j:Nat)))] [(1,[.d (.int (i:Nat)),.d (.sl 2 (xs.map atomDV)),.d (.sl 1 (us.map .int))]),(2,[.nil,.nil,.nil]),(4,[.buf 45 28 1 ((cvA (idTo i) xs).map ratsD),.buf 51 43 2 ((List.replicate i q1).map ratDV),.buf 64 43 2 ((List.replicate j q1).map ratDV)])]) ?_ ?_
    ·refine ⟨_,_,?_,0,rfl,Nat.zero_le _,rfl⟩
     (refine sle_mk ?_ ?_ <;> simp (disch:=(first | omega | (simp;omega))) only [go_sem,w64,List.replicate_zero,List.map_nil] <;> exact leafs)
    ·rintro mm s ⟨j,rfl,hj,rfl⟩
     have w5:IntKind.i64.wrap ((j:Int)+1)=((j+1:Nat):Int):=by rw [w64 (by omega)];rfl
     have hb2:((List.replicate j q1).map ratDV).length=j:=by simp
     repeat' (first | refine sq ?_ | refine stp ?_ | refine blk_o (by decide) ?_ | (apply cb;(focus (simp (disch:=(first | omega | (simp;omega))) only [go_sem,w64,hxm];try exact rfl));refine cok ?_) | (refine rgT ?_;intro K hK) | (refine dA ?_;intro K hK) | (with_reducible refine hK _ ?_;clear hK K) | (refine stq ?_;simp (disch:=(first | omega | (simp;omega))) only [go_sem,w64,hxm]) | refine as1 ?_ | fail)
     refine awp_if (p:=(j:Int)<(xs.length:Nat)) (by simp (disch:=(first | omega | (simp;omega))) only [go_sem,w64,hxm]) ?_ ?_ <;> intro hc2
     ·repeat' (first | refine sq ?_ | refine stp ?_ | refine blk_o (by decide) ?_ | (apply cb;(focus (simp (disch:=(first | omega | (simp;omega))) only [go_sem,w64,w5,hb2];try exact rfl));refine cok ?_) | (refine rgT ?_;intro K hK) | (refine dA ?_;intro K hK) | (with_reducible refine hK _ ?_;clear hK K) | (refine stq ?_;simp (disch:=(first | omega | (simp;omega))) only [go_sem,w64,w5,hb2]) | refine as1 ?_ | fail)
      refine ⟨xs.length - (j+1),_,by omega,?_,j+1,rfl,by omega,rfl⟩
      rw [rep_succ,List.map_append]
      (refine sle_mk ?_ ?_ <;> simp (disch:=(first | omega | (simp;omega))) only [go_sem,w64,List.map_cons,List.map_nil,ratDV,q1] <;> exact leafs)
     ·obtain rfl:j=xs.length:=by omega
      repeat' (first | refine sq ?_ | refine stp ?_ | refine blk_o (by decide) ?_ | (apply cb;(focus (simp (disch:=(first | omega | (simp;omega))) only [go_sem,w64];try exact rfl));refine cok ?_) | (refine rgT ?_;intro K hK) | (refine dA ?_;intro K hK) | (with_reducible refine hK _ ?_;clear hK K) | (refine stq ?_;simp (disch:=(first | omega | (simp;omega))) only [go_sem,w64]) | refine as1 ?_ | fail)
      (refine endA (r:=.tup [.d (.agg [matD (cvA (idTo i) xs),ratsD (List.replicate i q1),ratsD (List.replicate xs.length q1)]),.d (.bool true)]) ?_)
      exact ⟨by unfold cpF;rw [if_pos hq];rfl,rfl⟩
end Go.Proofs.YteiaofkgbdlpoaaDoor
namespace Go.Proofs.YteiaofkgbdlpoaaDoor
set_option linter.unusedSimpArgs false
set_option linter.unusedVariables false
attribute [local go_sem ↓] reduceIte
attribute [local go_sem] Nat.reduceEqDiff Nat.reduceLT Nat.reduceAdd Nat.reduceLeDiff Nat.reduceMul Nat.reduceBEq Nat.reduceSub reduceCtorEq Int.reduceLE Int.reduceNeg Int.reduceLT
open Go.RowKit
noncomputable def mcF (nv:Int) (xs:List AtomD) (us:List Int):BestS:=mnF (cpF nv xs us).A (cpF nv xs us).B (cpF nv xs us).C
noncomputable def dpF (nv:Int) (xs:List AtomD) (us:List Int):LpS:=dlF (cpF nv xs us).A (cpF nv xs us).B (cpF nv xs us).C
noncomputable def mpF (nv:Int) (xs:List AtomD) (us:List Int):BestS:=mxF (dpF nv xs us).A (dpF nv xs us).B (dpF nv xs us).C
structure SmallP (p:LpS):Prop where
 a:p.A.length≤1048576
 r:∀ i,i<p.A.length→(mx p.A i).length≤1048576
 b:p.B.length≤1048576
 c:p.C.length≤1048576
section
variable (nv:Int) (xs:List AtomD) (us:List Int) (hn:NmOK xs)
include hn
end
end Go.Proofs.YteiaofkgbdlpoaaDoor
namespace Go.Proofs.YteiaofkgbdlpoaaDoor
set_option linter.unusedSimpArgs false
set_option linter.unusedVariables false
open Go.RowKit
theorem cmpR_tr:∀ {a b c:List Int},a.length=b.length→b.length=c.length→cmpR a b≤0→cmpR b c≤0→cmpR a c≤0∧(cmpR a b<0∨cmpR b c<0→cmpR a c<0)
 | [],[],[],_,_,_,_=>by simp [cmpR]
 | x :: a,y :: b,z :: c,h1,h2,h3,h4=>by
  simp only [List.length_cons,Nat.add_right_cancel_iff] at h1 h2
  simp only [cmpR,cmpI] at h3 h4 ⊢
  by_cases e1:x=y
  ·subst e1
   rw [if_pos rfl] at h3 ⊢
   by_cases e2:x=z
   ·subst e2
    rw [if_pos rfl] at h4 ⊢
    rw [if_pos rfl]
    exact cmpR_tr h1 h2 h3 h4
   ·rw [if_neg e2] at h4 ⊢
    rw [if_neg e2]
    split at h4
    ·rename_i hlt;rw [if_pos hlt];omega
    ·split at h4 <;> omega
  ·rw [if_neg e1] at h3 ⊢
   have hxy:x<y:=by
    split at h3
    ·assumption
    ·split at h3 <;> omega
   by_cases e2:y=z
   ·subst e2
    rw [if_neg e1,if_pos hxy]
    omega
   ·rw [if_neg e2] at h4
    have hyz:y<z:=by
     split at h4
     ·assumption
     ·split at h4 <;> omega
    rw [if_neg (by omega),if_pos (show x<z by omega)]
    omega
def Asc (rows:List (List Int)):Prop:=rows.Pairwise (fun a b=>cmpR a b<0)
def SameL (n:Nat) (rows:List (List Int)):Prop:=∀ x∈rows,x.length=n
theorem cmpR_lt_tr {a b c:List Int} {n:Nat} (ha:a.length=n) (hb:b.length=n) (hc:c.length=n) (h1:cmpR a b<0) (h2:cmpR b c≤0):cmpR a c<0:=(cmpR_tr (by omega) (by omega) (by omega) h2).2 (.inl h1)
theorem cmpR_lt_tr2 {a b c:List Int} {n:Nat} (ha:a.length=n) (hb:b.length=n) (hc:c.length=n) (h1:cmpR a b≤0) (h2:cmpR b c<0):cmpR a c<0:=(cmpR_tr (by omega) (by omega) h1 (by omega)).2 (.inr h2)
theorem asc_snoc {out:List (List Int)} {x:List Int} (h:Asc out) (hx:∀ y∈out,cmpR y x<0):Asc (out ++ [x]):=by
 unfold Asc
 rw [List.pairwise_append]
 exact ⟨h,by simp,fun y hy z hz=>by rw [List.mem_singleton.1 hz];exact hx y hy⟩
structure Mrg (q:Nat) (l a b out:List (List Int)):Prop where
 aa:Asc a
 ab:Asc b
 ao:Asc out
 lt:∀ x∈out,∀ y,y∈a∨y∈b→cmpR x y<0
 mem:∀ x,(x∈out∨x∈a∨x∈b)↔x∈l
 same:SameL q l
 len:out.length+a.length+b.length≤l.length
theorem Mrg.sa {q:Nat} {l a b out:List (List Int)} (h:Mrg q l a b out):SameL q a:=fun x hx=>h.same x ((h.mem x).1 (.inr (.inl hx)))
theorem Mrg.sb {q:Nat} {l a b out:List (List Int)} (h:Mrg q l a b out):SameL q b:=fun x hx=>h.same x ((h.mem x).1 (.inr (.inr hx)))
theorem Mrg.left {q:Nat} {l a b out:List (List Int)} {x:List Int} (h:Mrg q l (x :: a) b out) (hx:∀ y,b.head? = some y→cmpR x y<0):Mrg q l a b (out ++ [x]):=by
 have h1:=List.pairwise_cons.1 h.aa
 refine ⟨h1.2,h.ab,asc_snoc h.ao fun y hy=>h.lt y hy x (.inl (List.mem_cons_self ..)),fun z hz y hy=>?_,fun z=>?_,h.same,by have:=h.len;simp at this ⊢;omega⟩
 ·rcases List.mem_append.1 hz with hz | hz
  ·exact h.lt z hz y (hy.imp (fun h=>List.mem_cons_of_mem _ h) id)
  ·rw [List.mem_singleton] at hz
   subst hz
   rcases hy with hy | hy
   ·exact h1.1 y hy
   ·cases b with
    | nil=>cases hy
    | cons w b =>
     have h2:=hx w rfl
     rcases List.mem_cons.1 hy with rfl | hy'
     ·exact h2
     ·exact cmpR_lt_tr (h.sa z (List.mem_cons_self ..)) (h.sb w (List.mem_cons_self ..)) (h.sb y hy) h2 (by have:=(List.pairwise_cons.1 h.ab).1 y hy';omega)
 ·rw [← h.mem z];simp only [List.mem_append,List.mem_cons,List.not_mem_nil,or_false]
  constructor
  ·rintro ((h | h) | h | h)
   ·exact .inl h
   ·exact .inr (.inl (.inl h))
   ·exact .inr (.inl (.inr h))
   ·exact .inr (.inr h)
  ·rintro (h | (h | h) | h)
   ·exact .inl (.inl h)
   ·exact .inl (.inr h)
   ·exact .inr (.inl h)
   ·exact .inr (.inr h)
theorem Mrg.both {q:Nat} {l a b out:List (List Int)} {x:List Int} (h:Mrg q l (x :: a) (x :: b) out):Mrg q l a b (out ++ [x]):=by
 have h1:=List.pairwise_cons.1 h.aa
 have h2:=List.pairwise_cons.1 h.ab
 refine ⟨h1.2,h2.2,asc_snoc h.ao fun y hy=>h.lt y hy x (.inl (List.mem_cons_self ..)),fun z hz y hy=>?_,fun z=>?_,h.same,by have:=h.len;simp at this ⊢;omega⟩
 ·rcases List.mem_append.1 hz with hz | hz
  ·exact h.lt z hz y (hy.imp (fun h=>List.mem_cons_of_mem _ h) (fun h=>List.mem_cons_of_mem _ h))
  ·rw [List.mem_singleton] at hz
   subst hz
   rcases hy with hy | hy
   ·exact h1.1 y hy
   ·exact h2.1 y hy
 ·rw [← h.mem z];simp only [List.mem_append,List.mem_cons,List.not_mem_nil,or_false]
  constructor
  ·rintro ((h | h) | h | h)
   ·exact .inl h
   ·exact .inr (.inl (.inl h))
   ·exact .inr (.inl (.inr h))
   ·exact .inr (.inr (.inr h))
  ·rintro (h | (h | h) | (h | h))
   ·exact .inl (.inl h)
   ·exact .inl (.inr h)
   ·exact .inr (.inl h)
   ·exact .inl (.inr h)
   ·exact .inr (.inr h)
structure Mrg2 (q:Nat) (l a b out:List (List Int)):Prop where
 aa:Asc a
 ab:Asc b
 ao:Asc out
 le:∀ x∈out,∀ y,y∈a∨y∈b→cmpR x y≤0
 mem:∀ x,(x∈out∨x∈a∨x∈b)↔x∈l
 same:SameL q l
 len:out.length+a.length+b.length≤l.length
theorem Mrg2.sa {q:Nat} {l a b out:List (List Int)} (h:Mrg2 q l a b out):SameL q a:=fun x hx=>h.same x ((h.mem x).1 (.inr (.inl hx)))
theorem Mrg2.sb {q:Nat} {l a b out:List (List Int)} (h:Mrg2 q l a b out):SameL q b:=fun x hx=>h.same x ((h.mem x).1 (.inr (.inr hx)))
theorem Mrg2.so {q:Nat} {l a b out:List (List Int)} (h:Mrg2 q l a b out):SameL q out:=fun x hx=>h.same x ((h.mem x).1 (.inl hx))
theorem Mrg2.left {q:Nat} {l a b out:List (List Int)} {x:List Int} (h:Mrg2 q l (x :: a) b out) (hx:∀ y,b.head? = some y→cmpR x y≤0) (ho:∀ y∈out,cmpR y x<0):Mrg2 q l a b (out ++ [x]):=by
 have h1:=List.pairwise_cons.1 h.aa
 refine ⟨h1.2,h.ab,asc_snoc h.ao ho,fun z hz y hy=>?_,fun z=>?_,h.same,by have:=h.len;simp at this ⊢;omega⟩
 ·rcases List.mem_append.1 hz with hz | hz
  ·exact h.le z hz y (hy.imp (fun h=>List.mem_cons_of_mem _ h) id)
  ·rw [List.mem_singleton] at hz
   subst hz
   rcases hy with hy | hy
   ·have:=h1.1 y hy;omega
   ·cases b with
    | nil=>cases hy
    | cons w b =>
     have h2:=hx w rfl
     rcases List.mem_cons.1 hy with rfl | hy'
     ·exact h2
     ·have:=cmpR_lt_tr2 (h.sa z (List.mem_cons_self ..)) (h.sb w (List.mem_cons_self ..)) (h.sb y hy) h2 ((List.pairwise_cons.1 h.ab).1 y hy')
      omega
 ·rw [← h.mem z];simp only [List.mem_append,List.mem_cons,List.not_mem_nil,or_false]
  constructor
  ·rintro ((h | h) | h | h)
   ·exact .inl h
   ·exact .inr (.inl (.inl h))
   ·exact .inr (.inl (.inr h))
   ·exact .inr (.inr h)
  ·rintro (h | (h | h) | h)
   ·exact .inl (.inl h)
   ·exact .inl (.inr h)
   ·exact .inr (.inl h)
   ·exact .inr (.inr h)
theorem Mrg2.less {q:Nat} {l a b out:List (List Int)} {x z:List Int} (h:Mrg2 q l (x :: a) b (out ++ [z])) (hz:cmpR z x ≠ 0):∀ y∈out ++ [z],cmpR y x<0:=fun y hy=>by
 have hzx:=h.le z (by simp) x (.inl (List.mem_cons_self ..))
 rcases List.mem_append.1 hy with hy' | hy'
 ·have h1:=(List.pairwise_append.1 h.ao).2.2 y hy' z (by simp)
  exact cmpR_lt_tr (h.so y hy) (h.so z (by simp)) (h.sa x (List.mem_cons_self ..)) h1 hzx
 ·rw [List.mem_singleton] at hy'
  subst hy';omega
end Go.Proofs.YteiaofkgbdlpoaaDoor
namespace Go.Proofs.YteiaofkgbdlpoaaDoor
set_option linter.unusedSimpArgs false
set_option linter.unusedVariables false
open Go.RowKit
def intsQ:RowP (List Int):=fun lo hi w a n c xs=>IntsA true lo hi w a n c xs
abbrev RowsS:=SepA intsQ
theorem RowsS.rows {lo hi:Nat} {w:World} {a:Option Addr} {n c:Nat} {xss:List (List Int)} (h:RowsS lo hi w a n c xss):RowsA true lo hi w a n c xss:=SepA.sl (R:=intsR) (fun {lo hi w ra rn rc x} h=>⟨ra,rn,rc,rfl,h⟩) intsOK h
end Go.Proofs.YteiaofkgbdlpoaaDoor
namespace Go.Proofs.YteiaofkgbdlpoaaDoor
set_option linter.unusedSimpArgs false
set_option linter.unusedVariables false
open Go.RowKit
theorem ints_cxc {C:Nat→Nat→Prop} {fz:Bool} {lo hi:Nat} {w:World} {a:Option Addr} {n c:Nat} {xs:List Int} (h:IntsA fz lo hi w a n c xs) (hC:∀ b i,lo≤b→b<hi→w.cell? ⟨b,i,none⟩ ≠ none→C b i):CX C w (intsD xs) [.slice a n c]:=by
 obtain ⟨h1,h2,h3,h4,h5,h6⟩:=h
 refine ⟨a,n,c,xs.map (Value.int .i64),rfl,by simpa using h1,CXk.singles.2 ⟨by simp,fun i x hx=>?_⟩,by simp [h1],h2,h3,h6,fun u hu=>?_,fun hn=>?_⟩
 ·rw [List.getElem?_map] at hx
  cases e:xs[i]? with
  | none=>rw [e] at hx;cases hx
  | some y=>rw [e] at hx;cases hx;exact ⟨.int .i64 y,by simp [e],rfl,h4 y (List.mem_of_getElem? e)⟩
 ·obtain ⟨x,_,rfl⟩:=List.mem_map.1 hu;rfl
 ·obtain ⟨b,off,ha,hl,hb,hc⟩:=h5 hn
  refine ⟨b,off,ha,fun i u hu=>?_⟩
  rw [List.getElem?_map] at hu
  cases e:xs[i]? with
  | none=>rw [e] at hu;cases hu
  | some y =>
   rw [e] at hu
   cases hu
   have hi:i<xs.length:=(List.getElem?_eq_some_iff.1 e).1
   have h8:=(hc i (by omega)).1
   exact ⟨hC _ _ hl hb (by rw [h8];exact fun x=>(by cases x)),by rw [h8,ix_lt hi,(List.getElem?_eq_some_iff.1 e).2]⟩
end Go.Proofs.YteiaofkgbdlpoaaDoor
namespace Go.Proofs.YteiaofkgbdlpoaaDoor
set_option linter.unusedSimpArgs false
set_option linter.unusedVariables false
open Go.RowKit
theorem CXk.mk {C:Nat→Nat→Prop} {w:World} {k:Nat}:∀ {m:List DV} {us:List Value},us.length=m.length*k→(∀ i x,m[i]? = some x→CX C w x ((us.drop (i*k)).take k))→CXk C w k m us
 | [],us,h,_=>List.eq_nil_of_length_eq_zero (by simpa using h)
 | x :: m,us,h,hh=>by
  have e:(x :: m).length*k=k+m.length*k:=by rw [List.length_cons,Nat.add_mul,Nat.one_mul,Nat.add_comm]
  rw [e] at h
  refine ⟨us.take k,us.drop k,(List.take_append_drop k us).symm,by simpa using hh 0 x rfl,by rw [List.length_take];omega,CXk.mk (by rw [List.length_drop,h];omega) fun i y hy=>?_⟩
  have:=hh (i+1) y (by simpa using hy)
  rw [List.drop_drop]
  rwa [show (i+1)*k=k+i*k by rw [Nat.add_mul,Nat.one_mul,Nat.add_comm]] at this
theorem atoms_cxc {C:Nat→Nat→Prop} {fz:Bool} {lo hi:Nat} {w:World} {a:Option Addr} {n c:Nat} {xs:List AtomD} (h:AtomsA fz lo hi w a n c xs) (hC:∀ b i,lo≤b→b<hi→w.cell? ⟨b,i,none⟩ ≠ none→C b i):CX C w (.sl 2 (xs.map atomDV)) [.slice a n c]:=by
 have hl:=h.len
 by_cases hn:n=0
 ·subst hn
  obtain rfl:xs=[]:=List.eq_nil_of_length_eq_zero hl
  exact ⟨a,0,c,[],rfl,rfl,rfl,rfl,h.2.1,h.2.2.1,h.2.2.2.2,fun _ h=>(by cases h),fun h=>absurd h (Nat.lt_irrefl 0)⟩
 ·obtain ⟨b,off,rfl⟩:=atomsSome h (by omega)
  have hv:∀ i,i<n*2→∃ u,w.cell? ⟨b,off+i,none⟩=some u∧u.oneCell'=true:=fun i hi=>by
   obtain ⟨_,_,_,ra,rn,rc,g1,g2,_⟩:=atomsAt h (show i / 2<n by omega)
   rcases Nat.mod_two_eq_zero_or_one i with e | e
   ·exact ⟨.string (ax xs (i / 2)).nm,by rw [← g1];congr 2;omega,rfl⟩
   ·exact ⟨.slice ra rn rc,by rw [← g2];congr 2;omega,rfl⟩
  have hvs:∀ i u,((List.range (n*2)).map (fun i=>(w.cell? ⟨b,off+i,none⟩).getD undef))[i]? = some u→i<n*2∧w.cell? ⟨b,off+i,none⟩=some u∧u.oneCell'=true:=fun i u hu=>by
   have hi:i<n*2:=by have:=(List.getElem?_eq_some_iff.1 hu).1;simpa using this
   obtain ⟨x,hx,h1⟩:=hv i hi
   rw [List.getElem?_map,List.getElem?_range hi,Option.map_some,hx] at hu
   cases hu
   exact ⟨hi,hx,h1⟩
  refine ⟨_,n,c,(List.range (n*2)).map (fun i=>(w.cell? ⟨b,off+i,none⟩).getD undef),rfl,by simpa using hl,CXk.mk (by simp [hl]) fun i x hx=>?_,by simp,h.2.1,h.2.2.1,h.2.2.2.2,fun u hu=>?_,fun _=>⟨b,off,rfl,fun i u hu=>?_⟩⟩
  ·rw [List.getElem?_map] at hx
   have hi:i<xs.length:=by
    cases e:xs[i]? with
    | none=>rw [e] at hx;cases hx
    | some y=>exact (List.getElem?_eq_some_iff.1 e).1
   rw [List.getElem?_eq_getElem hi,Option.map_some,← ax_lt hi] at hx
   cases hx
   obtain ⟨hb1,hb2,hsz,ra,rn,rc,g1,g2,g3,_⟩:=atomsAt h (show i<n by omega)
   have e:(((List.range (n*2)).map (fun i=>(w.cell? ⟨b,off+i,none⟩).getD undef)).drop (i*2)).take 2=[.string (ax xs i).nm,.slice ra rn rc]:=by
    apply List.ext_getElem?
    intro j
    rw [List.getElem?_take]
    split
    ·rename_i hj
     rw [List.getElem?_drop,List.getElem?_map,List.getElem?_range (by omega),Option.map_some]
     rcases (by omega:j=0∨j=1) with rfl | rfl
     ·simp [g1]
     ·rw [show off+(i*2+1)=off+i*2+1 by omega,g2];rfl
    ·rename_i hj
     rw [List.getElem?_eq_none (by simp;omega)]
   rw [e]
   exact ⟨[.string (ax xs i).nm],_,rfl,rfl,[.slice ra rn rc],[],rfl,ints_cxc g3 hC,rfl⟩
  ·obtain ⟨i,hi,rfl⟩:=List.mem_iff_getElem.1 hu
   exact (hvs i _ (List.getElem?_eq_getElem hi)).2.2
  ·obtain ⟨h1,h2,_⟩:=hvs i u hu
   obtain ⟨hb1,hb2,_⟩:=atomsAt h (show i / 2<n by omega)
   exact ⟨hC _ _ hb1 hb2 (by rw [h2];exact fun x=>(by cases x)),h2⟩
theorem nm_of {fz:Bool} {lo hi:Nat} {w:World} {a:Option Addr} {n c:Nat} {xs:List AtomD} (h:AtomsA fz lo hi w a n c xs):NmOK xs:=by
 intro x hx
 obtain ⟨i,hi,rfl⟩:=List.mem_iff_getElem.1 hx
 have hl:=h.len
 obtain ⟨b,off,rfl⟩:=atomsSome h (by omega)
 have:=(atomsAt h (show i<n by omega)).2.2.1
 rwa [ax_lt hi] at this
theorem query_cvs {fz:Bool} {lo hi lo':Nat} {w:World} {nv:Int} {a:Option Addr} {n c:Nat} {xs:List AtomD} {ua:Option Addr} {un uc:Nat} {us:List Int} (h:QueryA fz lo hi w nv a n c xs ua un uc us) (hh:hi≤w.heap.size) (hl:lo'≤lo) (G:Gh) (hG:G.C=cellsC lo' w):CV G w (.d (queryD nv xs us)) (queryV nv a n c ua un uc) :=
 cvAgg.2 ⟨[.int .i64 nv,.slice a n c,.slice ua un uc],⟨[.int .i64 nv],_,rfl,⟨rfl,h.1⟩,[.slice a n c],_,rfl,atoms_cxc h.2.1 (fun b i h1 h2 h3=>by rw [hG];exact ⟨by omega,by omega,h3⟩),[.slice ua un uc],[],rfl,ints_cxc h.2.2 (fun b i h1 h2 h3=>by rw [hG];exact ⟨by omega,by omega,h3⟩),rfl⟩,rfl⟩
end Go.Proofs.YteiaofkgbdlpoaaDoor
namespace Go.Proofs.YteiaofkgbdlpoaaDoor
set_option linter.unusedSimpArgs false
set_option linter.unusedVariables false
open Go.RowKit
section
variable {lo hi B:Nat} {w w':World}
theorem beGlob (h:GlobW w) (hb:Below B w w') (hh:1≤B):GlobW w':=h.below (hb.block 0 hh)
theorem kpGlob (h:GlobW w) (hb:Keeps 0 1 w w'):GlobW w':=h.below (hb 0 (Nat.le_refl _) (by omega))
end
section
variable {fz:Bool} {lo hi:Nat} {w:World} {nv:Int} {a:Option Addr} {n c:Nat} {xs:List AtomD} {ua:Option Addr} {un uc:Nat} {us:List Int}
end
end Go.Proofs.YteiaofkgbdlpoaaDoor
namespace Go.Proofs.YteiaofkgbdlpoaaDoor
set_option linter.unusedSimpArgs false
set_option linter.unusedVariables false
open Go.RowKit
section
variable {X:Cx} {G:Gh} {s:AS} {a:Act} {w:World}
theorem RelG.more (h:RelG X G s a w) (b0 M:Nat) (h1:X.w0.heap.size≤b0) (h2:b0<w.heap.size) (hbuf:∀ g,(G.hd g).ownBlock ≠ some b0) (hob:∀ o,s.ob o ≠ none→G.ad o ≠ b0) (hf:∀ i,w.frozen? ⟨b0,i,none⟩=false) :
 RelG X { G with C:=fun b i=>G.C b i∨(b=b0∧M≤i) } s a w:=by
 have hk:GLe (fun _=>true) (fun _=>true) G { G with C:=fun b i=>G.C b i∨(b=b0∧M≤i) } w w:=⟨fun b o hc=>⟨.inl hc,rfl⟩,fun _ _=>⟨rfl,rfl,rfl⟩,fun _ _=>rfl⟩
 refine ⟨h.fr,h.df,h.n,fun t ht=>(h.tm t ht).keep hk,fun g=>?_,fun o l ho=>?_,?_,h.d1,h.d2,h.d3,h.ow,?_,?_,h.ln,fun b i hc=>.inl (h.c0 b i hc),?_⟩
 ·obtain ⟨a0,n0,c0,vs,e1,e2,e3⟩:=h.bf g
  refine ⟨a0,n0,c0,vs,e1,e2,fun b hb o=>⟨fun hc=>?_,fun hf=>.inl ((e3 b hb o).2 hf)⟩⟩
  rcases hc with hc | ⟨rfl,_⟩
  ·exact (e3 b hb o).1 hc
  ·exact absurd (by rw [e1,hb];rfl) (hbuf g)
 ·obtain ⟨g1,g2,us,g3,g4,g5⟩:=h.ob o l ho
  refine ⟨g1,fun i hc=>?_,us,g3.keep hk,g4,g5⟩
  rcases hc with hc | ⟨hc,_⟩
  ·exact g2 i hc
  ·exact hob o (by rw [ho];exact fun e=>(by cases e)) hc
 ·rintro b i (hc | ⟨rfl,_⟩)
  ·exact h.cs b i hc
  ·exact h2
 ·rintro b i (hc | ⟨rfl,_⟩) hb
  ·exact h.lc b i hc hb
  ·omega
 ·rintro b i (hc | ⟨rfl,_⟩) hL
  ·exact h.nl b i hc hL
  ·have:=X.hL _ hL;omega
 ·rintro b i (hc | ⟨rfl,hi⟩) hz
  ·exact h.uf b i hc hz
  ·exact hf i
theorem RelG.obOK {q:Nat} {l l':List AV} (h:RelG X G s a w) (hq:s.ob q=some l) (h2:ObOK G w q l'):RelG X G (s.setOb q (some l')) a w:=by
 have hs:∀ o,(s.setOb q (some l')).ob o ≠ none→s.ob o ≠ none:=fun o ho e=>by
  by_cases eo:o=q
  ·subst eo;rw [hq] at e;cases e
  ·exact ho (by simp [AS.setOb,eo,e])
 refine ⟨h.fr,h.df,h.n,h.tm,h.bf,fun o l2 ho=>?_,h.cs,h.d1,fun o o' a1 a2=>h.d2 o o' (hs o a1) (hs o' a2),fun o g a1=>h.d3 o g (hs o a1),fun o a1=>h.ow o (hs o a1),h.lc,h.nl,fun i a1=>h.ln i (hs _ a1),h.c0,h.uf⟩
 simp only [AS.setOb] at ho
 split at ho
 ·rename_i e
  subst e
  cases ho
  exact h2
 ·exact h.ob o l2 ho
theorem cvs_setAt {G:Gh} {w:World} {y:AV} {v:Value} (hy:CV G w y v):∀ {l:List AV} {us:List Value} {i:Nat},us[i]? = some v→CVs G w l us→CVs G w (l.set i y) us
 | [],us,i,h,hc=>by obtain rfl:=hc;simp at h
 | z :: l,us,i,h,hc=>by
  obtain ⟨v',us',rfl,h1,h2⟩:=hc
  cases i with
  | zero=>simp at h;subst h;exact ⟨_,us',rfl,hy,h2⟩
  | succ i=>exact ⟨v',us',rfl,h1,cvs_setAt hy (by simpa using h) h2⟩
theorem RelG.shut {g T k:Nat} {l:List DV} {v:Value} (h:RelG X G s a w) (hv:CV G w (.buf g T k l) v) (hne:l ≠ []) :
 ∃ b G',GLe (fun g'=>!(g' == g)) (fun _=>true) G G' w w∧RelG X G' (s.newB g) a w∧CX G'.C w (.wb b k l) [v]∧¬ Shut G.C b:=by
 obtain ⟨h1,h2,h3,h4⟩:=hv
 obtain ⟨a0,n,c0,vs,e1,e2,e3⟩:=h.bf g
 obtain ⟨a',n',c',vs',e4,e5,e6,e7⟩:=wh_sl h4
 rw [h1,e1] at e4
 simp only [List.cons.injEq,Value.slice.injEq,and_true] at e4
 obtain ⟨rfl,rfl,rfl⟩:=e4
 have hn:0<n:=by rw [← e5];exact List.length_pos_iff.2 hne
 obtain ⟨b0,rfl,hg1,hg2⟩:=e2.head hn
 have hown:(G.hd g).ownBlock=some b0:=by rw [e1];rfl
 have hset:=h.setBuf (w':=w) (g:=g) (T:=T) (k:=k) (World.grownBy.refl w _) (fun _ _ _ _=>rfl) (fun b j hb' hc=>by obtain ⟨a9,n9,c9,vs9,q1,q2,q3⟩:=h.bf g;exact h.uf b j hc (q2.1.lt b (by rw [← q1];exact hb')).1) (ownF_nil T k w X.w0.heap.size) (fun b hb=>by cases hb) (fun _ _=>False) (fun _ _ h=>h.elim) (fun b i hb=>by cases hb)
 have hob0:∀ o,(s.scr (fun g'=>!(g' == g)) (fun _=>true)).ob o ≠ none→s.ob o ≠ none:=fun o ho e=>ho (by simp [AS.scr,e])
 have hmo:=hset.more b0 0 hg1 hg2 (fun g'=>by
  by_cases e:g'=g
  ·simp only [if_pos e];exact fun e9=>(by cases e9)
  ·simp only [if_neg e]
   intro e9
   have:=h.d1 g' g e (e9.trans hown.symm)
   rw [e9] at this;cases this) (fun o ho e=>h.d3 o g (hob0 o ho) (by rw [hown,← e])) (fun i=>e2.free i)
 refine ⟨b0,_,?_,hmo,?_,?_⟩
 ·exact ⟨fun b i hc=>⟨.inl (.inl hc),rfl⟩,fun g' hg'=>by simp at hg';simp [hg'],fun _ _=>rfl⟩
 ·have hst:Stay G.C (fun b i=>(G.C b i∨False)∨(b=b0∧0≤i)) w w:=fun b i hc=>⟨.inl (.inl hc),rfl⟩
  exact ⟨some ⟨b0,0,none⟩,n,c0,vs',by rw [h1,e1],e5,CXk.stay hst _ _ _ e6,e7.stay hst,fun _=>⟨rfl,0,fun i _=>.inr ⟨rfl,Nat.zero_le _⟩⟩⟩
 ·rintro ⟨M,hM⟩
  have hc:=hM (2*(M+n*G.hk g+c0*G.hk g)+1) (by omega)
  rcases (e3 b0 rfl _).1 hc with h9 | h9
  ·omega
  ·have:=h9.2;omega
end
section
variable {P:Cx→Prop} {N:Nat} {Q:Exit→AS→Prop} {s:AS} {c:Code}
def HasB (s:AS) (b:Nat):Prop:=∀ X G a w,RelG X G s a w→Shut G.C b
theorem awp_shut (t g:Nat) (bs:List Nat) {T k:Nat} {l:List DV} (hN:t<N) (h0:s.tm t=.buf g T k l) (hne:l ≠ []) (hbs:∀ b∈bs,HasB s b) (h:∀ b,b ∉ bs→AWp P N c Q ((s.newB g).put t (.d (.wb b k l)))):AWp P N c Q s:=by
 intro X a w hN' hP ⟨G,hr⟩
 have hb:=hr.tm t (by rw [hN'];exact hN)
 rw [h0] at hb
 obtain ⟨b,G',_,hr',hx,hn⟩:=hr.shut hb hne
 refine h b (fun hm=>hn (hbs b hm X G a w hr)) X a w hN' hP ⟨_,RelG.retm hr' fun _=>?_⟩
 exact ⟨_,hx,.inr ⟨fun m e=>(by cases e),rfl⟩⟩
theorem awp_shutO (q i g:Nat) (bs:List Nat) {T k:Nat} {l:List DV} {cells:List AV} (hq:s.ob q=some cells) (hi:cells[i]? = some (.buf g T k l)) (hne:l ≠ []) (hbs:∀ b∈bs,HasB s b)
 (h:∀ b,b ∉ bs→AWp P N c Q ((s.newB g).setOb q (some ((scrubs (fun g'=>!(g' == g)) (fun _=>true) cells).set i (.d (.wb b k l)))))):AWp P N c Q s:=by
 intro X a w hN' hP ⟨G,hr⟩
 obtain ⟨g1,g2,us,g3,g4,g5⟩:=hr.ob q cells hq
 obtain ⟨u,hu,hb⟩:=g3.at i _ hi
 obtain ⟨b,G',hle,hr',hx,hn⟩:=hr.shut hb hne
 have hq':(s.newB g).ob q=some (scrubs (fun g'=>!(g' == g)) (fun _=>true) cells):=by
  show (s.ob q).map (List.map (scrub (fun g'=>!(g' == g)) (fun _=>true)))=_
  rw [hq,Option.map_some,scrubs_map]
 obtain ⟨f1,f2,_⟩:=hr'.ob q _ hq'
 have had:G'.ad q=G.ad q:=hle.ad q rfl
 refine h b (fun hm=>hn (hbs b hm X G a w hr)) X a w hN' hP ⟨_,hr'.obOK hq' ⟨f1,f2,us,?_,g4,fun j u2 hj=>by rw [had];exact g5 j u2 hj⟩⟩
 refine cvs_setAt ?_ hu (CVs.scrub hle _ _ g3)
 exact ⟨_,hx,.inr ⟨fun m e=>(by cases e),rfl⟩⟩
end
end Go.Proofs.YteiaofkgbdlpoaaDoor
