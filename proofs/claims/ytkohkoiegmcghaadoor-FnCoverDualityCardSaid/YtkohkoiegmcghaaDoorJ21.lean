/- Lemmas for the proof of FnCoverDuality, part 21 of 26: no condition of their own. -/
import Derived.Test.YtkohkoiegmcghaaDoorJ6
import Derived.Test.YtkohkoiegmcghaaDoorJ18
import Derived.Test.YtkohkoiegmcghaaDoorJ20
namespace Go.Proofs.YtkohkoiegmcghaaDoor
set_option linter.unusedSimpArgs false
set_option linter.unusedVariables false
open Go.RowKit
def GlobW (w:World):Prop:=w.cell? ⟨0,0,none⟩=some (.int .i64 1)∧w.cell? ⟨0,1,none⟩=some (.int .i64 1)
def GlobX (X:Cx):Prop:=GlobW X.w0∧¬ X.L 0
theorem GlobW.below {w w':World} (h:GlobW w) (hb:w'.heap[0]? = w.heap[0]?):GlobW w':=⟨by rw [World.cell?_of_block (w:=w) hb];exact h.1,by rw [World.cell?_of_block (w:=w) hb];exact h.2⟩
theorem GlobW.pos {w:World} (h:GlobW w):0<w.heap.size:=World.block_lt_of_cell? _ _ h.1
section
variable {X:Cx} {G:Gh} {s:AS} {a:Act} {w:World}
theorem RelG.glob (h:RelG X G s a w) (hP:GlobX X):GlobW w:=hP.1.below (h.fr.block 0 hP.1.pos hP.2)
end
def AFnG (f:FuncId) (args:List AV) (R:AV→List (List AV)→Prop):Prop :=
 FnOK f∧∀ (w:World) (G:Gh) (vs:List Value),GlobW w→CVs G w args vs→(∀ b i,G.C b i→b<w.heap.size) →
  Calls Tryd.prog f vs.toArray w (fun e w'=>∃ v r os' G',e=.returned v∧PostC 0 G w R v w' r os' G')
theorem afn_ofG {f N:Nat} {fn:Func} {c:Code} {args:List AV} {R:AV→List (List AV)→Prop} {ty:TypeId→Option TyI} {rv:List ResultVar} (ht:TabOK ty) (hf:Tryd.prog.funcs[f]? = some fn) (hb:fn.body=some c) (hnm:(fn.name == "runtime.NumGoroutine")=false)
 (hN:fn.ntmps=N) (hrv:fn.results.toList=rv) (hargs:args.length≤N) (h:AWp GlobX N c (EndA ty N 0 rv R) (entS args [])):AFnG f args R:=⟨⟨fn,hf,hnm,by rw [hb];rfl⟩,fun w G vs h0 h1 h2=>afn_core (os:=[]) ht hf hb hN hrv hargs h w G vs h1 h2 (fun i l hl=>by simp at hl) (fun i j hi=>absurd hi (Nat.not_lt_zero _)) (fun X hw _ _ hL=>⟨by rw [hw];exact h0,by rw [hL];rintro ⟨i,hi,_⟩;exact absurd hi (Nat.not_lt_zero _)⟩)⟩
section
variable {ty:TypeId→Option TyI} {N:Nat} {o:Oper} {s:AS} {K:AS→Prop}
theorem lloadG (ht:TabOK ty) {T:TypeId} {i:TyI} {d:Nat} (ho:o.op=.load T (.global 0)) (hd:o.dst=some d) (hi:ty T=some i) (ha:i.agg=true) (hsz:i.size=2) (h:K (s.put d (.d (.agg [.int 1,.int 1])))):LStep GlobX N o s K:=by
 intro X G a w hN hP hr
 obtain ⟨g1,g2⟩:=hr.glob hP
 obtain ⟨v,hrn,hv⟩:=run_loadVar (ht T i hi) (w:=w) (b:=0) (o:=0) (us:=[.int .i64 1,.int .i64 1]) (by rw [hsz];rfl) (fun j u hu=>by
  match j,hu with
  | 0,hu=>cases hu;simpa using g1
  | 1,hu=>cases hu;simpa using g2
  | j+2,hu=>simp at hu)
 rcases hv with ⟨_,rfl⟩ | ⟨h0,_⟩
 ·refine snd_val hr (x:=.d (.agg [.int 1,.int 1])) ?_ (cvAgg.2 ⟨[.int .i64 1,.int .i64 1],⟨[.int .i64 1],_,rfl,⟨rfl,by unfold I64;omega⟩,[.int .i64 1],[],rfl,⟨rfl,by unfold I64;omega⟩,rfl⟩,rfl⟩) (by rw [hd];exact h)
  simp only [execOp,ho,Instr.loadAt,Act.eval,Instr.sureAddr,Sem.run_bind,Sem.run_pure,Result.andThen_ok,hrn]
 ·rw [ha] at h0;cases h0
theorem lcallG {f:FuncId} {c:Call} {args:List AV} {R:AV→List (List AV)→Prop} (d:Nat) (ho:o.op=.call c) (hc:c.callee=.value (.func f)) (hd:o.dst=some d) (hdlt:d<1000000)
 (hA:AFnG f args R) (hsub:ASubs [] (evs N s c.args.toList) args) (h:∀ r os',R r os'→os'.length≤1∧K ((s.call [] d os').put d (renA [] d r))):LStep GlobX N o s K:=by
 intro X G a w hN hP hr nx Q hn
 subst hN
 obtain ⟨⟨fn,hfn,hb1,hb2⟩,hA⟩:=hA
 have hcv:=hsub.cv (hr.evs c.args.toList)
 have hcall:=hA w { G with ad:=fun i=>G.ad (([]:List Nat).getD i 0) } _ (hr.glob hP) hcv hr.cs
 have hrun:(execOp a.eval o).run Tryd.prog w=.ok (.enter f (c.args.toList.map a.eval).toArray) w:=by
  have hb3:¬ fn.name = "runtime.NumGoroutine" := by simpa using hb1
  have hb4:¬ fn.body=none:=by intro e;rw [e] at hb2;cases hb2
  simp [execOp,ho,resolve,hc,Act.eval,Deferred.ofValue,invoke,callFunc,hfn,hb3,hb4]
  rw [← Array.toList_map]
 unfold Oper.wp
 rw [hrun]
 simp only [Oper.upon]
 refine hcall.mono ?_
 rintro e0 w' ⟨v,r,os',G',rfl,hp⟩
 obtain ⟨h3,h4⟩:=h r os' hp.post
 obtain ⟨G2,h5,h6,_⟩:=hr.called (ns:=[]) hp (fun i hi=>absurd hi (Nat.not_lt_zero _)) (fun i hi=>absurd hi (Nat.not_lt_zero _)) (by simpa using h3) hdlt
 simp only
 rw [hd]
 exact hn _ _ _ h4 ⟨G2,h5.put d h6⟩
end
section
variable {P:Cx→Prop} {N:Nat} {Q:Exit→AS→Prop} {s:AS}
theorem awp_drawM {ty:TypeId→Option TyI} (ht:TabOK ty) (hm:Tryd.prog.follows .mixedOrders=true) {id:Nat} {l:List Oper} (n:Nat) {o:Oper} (ho:l[n]? = some o) (hg:o.guard=none)
 (hB:drawB l ((List.range l.length).map (flAt l))=true) (hR:(List.range n).all (fun j=>reachF l.toArray l.length n j)=true) (hR2:(List.range l.length).all (fun i=>decide (i≤n) || reachF l.toArray l.length i n)=true)
 (h:∀ K:AS→Prop,(∀ s,Q .normal s→K s)→wops ty N l (l.take n) 0 s (fun s1=>LStep P N o s1 (fun s2=>wops ty N l (l.drop (n+1)) (n+1) s2 K))):AWp P N (.region id l.toArray true) Q s:=by
 intro X a w hN hP ⟨G,hr⟩
 have hnl:n<l.length:=(List.getElem?_eq_some_iff.1 ho).1
 have hw:=wops_ok (ty:=ty) (N:=N) (ops:=l) (fls:=(List.range l.length).map (flAt l)) (fun i hi=>by simp [List.getD,hi]) (l.take n) 0 s (K:=fun s1=>LStep P N o s1 (fun s2=>wops ty N l (l.drop (n+1)) (n+1) s2 (Q .normal)))
 have hw2:=fun s2=>wops_ok (ty:=ty) (N:=N) (ops:=l) (fls:=(List.range l.length).map (flAt l)) (fun i hi=>by simp [List.getD,hi]) (l.drop (n+1)) (n+1) s2 (K:=Q .normal) (fun j hj=>by rw [List.getElem?_drop])
 have hlt:(l.take n).length=n:=by simp;omega
 generalize hfl:(List.range l.length).map (flAt l)=fls at hB hw hw2
 have hchk:∀ i o,l[i]? = some o→(∀ e∈o.after,Region.binds .any e=true→e.on<i)∧∀ j,j<i→reachF l.toArray l.length i j=true∨∀ p,l[j]? = some p→Ind l (fls.getD j []) (fls.getD i []) p o:=by
  intro i o ho
  have hi:=(List.getElem?_eq_some_iff.1 ho).1
  have:=List.all_eq_true.1 hB i (List.mem_range.2 hi)
  rw [ho] at this
  simp only [Bool.and_eq_true] at this
  refine ⟨fun e he hb=>?_,fun j hj=>?_⟩
  ·have h1:=List.all_eq_true.1 this.1 e (by simpa using he)
   rw [hb] at h1
   simpa using h1
  ·have h1:=List.all_eq_true.1 this.2 j (List.mem_range.2 hj)
   simp only [Bool.or_eq_true] at h1
   rcases h1 with h1 | h1
   ·exact .inl h1
   ·refine .inr fun p hp=>?_
    rw [hp] at h1
    exact ind_of h1
 have hcongr:∀ (d:Nat→Bool) (i m:Nat),(List.range m).filter (fun j=>!(if j=i then true else d j))=(List.range m).filter (fun j=>(fun j=>!d j) j && !(j == i)):=fun d i m=>by
  apply List.filter_congr
  intro x _
  by_cases ex:x=i
  ·simp [ex]
  ·simp [ex]
 refine wp_region_inv hm (fun d a' w'=>∃ s',Rel X s' a' w'∧(d n=false→(∀ j,n<j→d j=false)∧aopsD ty N l fls ((List.range n).filter fun i=>!d i) s' (fun s1=>LStep P N o s1 (fun s2=>wops ty N l (l.drop (n+1)) (n+1) s2 (Q .normal)))) ∧
  (d n=true→(∀ j,j<n→d j=true)∧aopsD ty N l fls ((List.range l.length).filter fun i=>!d i) s' (Q .normal))) (fun i o ho=>(hchk i o (by simpa using ho)).1) ?_ ?_ ?_
 ·refine ⟨s,⟨G,hr.drew⟩,fun _=>⟨fun _ _=>rfl,?_⟩,fun h=>(by cases h)⟩
  have:(List.range n).filter (fun i=>!(fun _=>false:Nat→Bool) i)=List.range n:=by simp
  rw [this,List.range_eq_range']
  have:=hw (fun j hj=>by rw [hlt] at hj;simp [List.getElem?_take,hj]) (h _ fun _ h=>h)
  rw [hlt] at this
  exact this
 ·rintro d a' w' i o' ho2 hd hdeps hcl hbig ⟨s',⟨G',hr'⟩,ha,hb⟩
  have ho':l[i]? = some o':=by simpa using ho2
  have hi:=(List.getElem?_eq_some_iff.1 ho').1
  have hreach:∀ j,reachF l.toArray l.length i j=true→d j=true:=fun j hj=>reachF_done (ops:=l.toArray) hcl l.length i j (fun o' h2=>by rw [ho2] at h2;cases h2;exact hdeps) hj
  by_cases hin:i=n
  ·subst hin
   obtain rfl:o=o':=by rw [ho] at ho';exact Option.some.inj ho'
   have hall:∀ j,j<i→d j=true:=fun j hj=>hreach j (List.all_eq_true.1 hR j (List.mem_range.2 hj))
   obtain ⟨hlater,ha⟩:=ha hd
   have e0:(List.range i).filter (fun i=>!d i)=[]:=by
    rw [List.filter_eq_nil_iff]
    intro x hx
    simp [hall x (List.mem_range.1 hx)]
   rw [e0] at ha
   unfold wpOp
   rw [ho2]
   simp only
   rw [if_pos (by simp [Region.wanted,hg])]
   refine .inl (ha X G' a' w' hN hP hr' _ _ fun s2 a2 w2 h3 h4=>⟨s2,h4,fun h=>by simp at h,fun _=>⟨fun j hj=>by simp [show ¬ j=i by omega,hall j hj],?_⟩⟩)
   have e1:(List.range l.length).filter (fun j=>!(if j=i then true else d j))=List.range' (i+1) (l.drop (i+1)).length:=by
    have hsp:List.range l.length=List.range (i+1) ++ List.range' (i+1) (l.length - (i+1)):=by
     have:=List.range'_append_1 (s:=0) (m:=i+1) (n:=l.length - (i+1))
     rw [List.range_eq_range',List.range_eq_range',show l.length=i+1+(l.length - (i+1)) by omega,← this]
     simp
    rw [hsp,List.filter_append,List.filter_eq_nil_iff.2,List.nil_append,List.filter_eq_self.2,List.length_drop]
    ·intro x hx
     have hx:=List.mem_range'_1.1 hx
     simp [show ¬ x=i by omega,hlater x (by omega)]
    ·intro x hx
     have hx:=List.mem_range.1 hx
     by_cases e:x=i
     ·simp [e]
     ·simp [e,hall x (by omega)]
   rw [e1]
   exact hw2 s2 h3
  ·cases hdn:d n with
   | true =>
    obtain ⟨hbef,hb⟩:=hb hdn
    have hin':n<i:=by
     refine Nat.lt_of_not_le fun hle=>?_
     have:=hbef i (by omega)
     rw [hd] at this;cases this
    obtain ⟨post,e1,e2⟩:=filter_split (fun j=>!d j) l.length i hi (by simp [hd])
    rw [e1] at hb
    have hfr:=front (ty:=ty) (N:=N) ht ho' _ s' (fun j hj p hp=>by
     obtain ⟨hj1,hj2⟩:=List.mem_filter.1 hj
     have hji:j<i:=List.mem_range.1 hj1
     rcases (hchk i o' ho').2 j hji with h1 | h1
     ·exfalso
      have:=hreach j h1
      rw [this] at hj2;cases hj2
     ·exact h1 p hp) hb
    refine stepD_ok ht hN hr' ho' hfr (fun s2 a2 w2 h2 h3=>⟨s2,h3,fun h=>?_,fun _=>⟨fun j hj=>?_,?_⟩⟩)
    ·simp only [if_neg (show ¬ n=i from fun e=>hin e.symm),hdn] at h;cases h
    ·simp [hbef j hj]
    ·rw [hcongr,e2];exact h2
   | false =>
    obtain ⟨hlater,ha⟩:=ha hdn
    have hin':i<n:=by
     refine Nat.lt_of_not_le fun hle=>?_
     have h1:=List.all_eq_true.1 hR2 i (List.mem_range.2 hi)
     simp only [Bool.or_eq_true,decide_eq_true_eq] at h1
     rcases h1 with h1 | h1
     ·omega
     ·have:=hreach n h1
      rw [hdn] at this;cases this
    obtain ⟨post,e1,e2⟩:=filter_split (fun j=>!d j) n i hin' (by simp [hd])
    rw [e1] at ha
    have hfr:=front (ty:=ty) (N:=N) ht ho' _ s' (fun j hj p hp=>by
     obtain ⟨hj1,hj2⟩:=List.mem_filter.1 hj
     have hji:j<i:=List.mem_range.1 hj1
     rcases (hchk i o' ho').2 j hji with h1 | h1
     ·exfalso
      have:=hreach j h1
      rw [this] at hj2;cases hj2
     ·exact h1 p hp) ha
    refine stepD_ok ht hN hr' ho' hfr (fun s2 a2 w2 h2 h3=>⟨s2,h3,fun _=>⟨fun j hj=>?_,?_⟩,fun h=>?_⟩)
    ·simp [show ¬ j=i by omega,hlater j hj]
    ·rw [hcongr,e2];exact h2
    ·simp only [if_neg (show ¬ n=i from fun e=>hin e.symm),hdn] at h;cases h
 ·rintro d a' w' hall hbig ⟨s',hr',ha,hb⟩
  have h1:=(hb (hall n (by simpa using hnl))).2
  have e0:(List.range l.length).filter (fun i=>!d i)=[]:=by
   rw [List.filter_eq_nil_iff]
   intro x hx
   simp [hall x (by simpa using hx)]
  rw [e0] at h1
  exact ⟨s',h1,hr'⟩
theorem awp_regionY {ty:TypeId→Option TyI} (ht:TabOK ty) {id:Nat} {l:List Oper} (i:Nat) {o:Oper} (hi:l[i]? = some o) (hg:o.guard=none) (h:∀ K K2:AS→Prop,(∀ s,Q .normal s→K s)→(∀ s,aops ty N l (l.drop (i+1)) s K→K2 s)→aops ty N l (l.take i) s (fun s1=>LStep P N o s1 K2)):AWp P N (.region id l.toArray false) Q s :=
 awp_regionX ht i hi hg fun K hK=>h K _ hK fun _ h=>h
theorem awp_drawY {ty:TypeId→Option TyI} (ht:TabOK ty) (hm:Tryd.prog.follows .mixedOrders=true) {id:Nat} {l:List Oper} (n:Nat) {o:Oper} (ho:l[n]? = some o) (hg:o.guard=none)
 (hB:drawB l ((List.range l.length).map (flAt l))=true) (hR:(List.range n).all (fun j=>reachF l.toArray l.length n j)=true) (hR2:(List.range l.length).all (fun i=>decide (i≤n) || reachF l.toArray l.length i n)=true)
 (h:∀ K K2:AS→Prop,(∀ s,Q .normal s→K s)→(∀ s,wops ty N l (l.drop (n+1)) (n+1) s K→K2 s)→wops ty N l (l.take n) 0 s (fun s1=>LStep P N o s1 K2)):AWp P N (.region id l.toArray true) Q s:=awp_drawM ht hm n ho hg hB hR hR2 fun K hK=>h K _ hK fun _ h=>h
end
end Go.Proofs.YtkohkoiegmcghaaDoor
namespace Go.Proofs.YtkohkoiegmcghaaDoor
set_option linter.unusedSimpArgs false
set_option linter.unusedVariables false
attribute [local go_sem ↓] reduceIte
attribute [local go_sem] Nat.reduceEqDiff Nat.reduceLT Nat.reduceAdd Nat.reduceLeDiff Nat.reduceMul Nat.reduceBEq Nat.reduceSub reduceCtorEq Int.reduceLE Int.reduceNeg Int.reduceLT
open Go.RowKit
abbrev q1:RatD:=⟨1,1⟩
noncomputable def occQ (x:AtomD) (v:Int):RatD:=⟨if occ x.vs v=true then 1 else 0,1⟩
noncomputable def rowC (xs:List AtomD) (v:Int):List RatD:=xs.map fun x=>occQ x v
theorem getDA' {xs:List AtomD} {i:Nat} {x:DV} (h:i<xs.length):(xs.map atomDV).getD i x=atomDV (ax xs i):=by simp [List.getD,ax,h]
theorem rep_succ {α:Type} (n:Nat) (x:α):List.replicate (n+1) x=List.replicate n x ++ [x]:=by rw [List.replicate_succ']
noncomputable def cvA (vs:List Int) (xs:List AtomD):List (List RatD):=vs.map (rowC xs)
set_option maxRecDepth 100000 in
set_option maxHeartbeats 4000000 in
theorem implCoverOfG (nv:Int) (xs:List AtomD) (us vs:List Int) (hx:xs.length≤1000) (hv:vs.length≤1000):AFnG 45 [.d (queryD nv xs us),.d (intsD vs)] (fun r os=>r=.d (lpD (cvA vs xs) (List.replicate vs.length q1) (List.replicate xs.length q1))∧os=[]):=by
 refine afn_ofG (rv:=[.cell 4 43]) tyT_ok Tryd.func45 rfl (by decide +kernel) Tryd.ntmps45 rfl (by simp) ?_
 repeat' (first | refine sq ?_ | refine stp ?_ | refine blk_o (by decide) ?_ | (apply cb;(focus (simp (disch:=(first | omega | (simp;omega))) only [go_sem,w64,queryD,intsD];try exact rfl));refine cok ?_) | (refine rgT ?_;intro K hK) | (refine dA ?_;intro K hK) | (with_reducible refine hK _ ?_;clear hK K) | (refine stq ?_;simp (disch:=(first | omega | (simp;omega))) only [go_sem,w64,queryD,intsD]) | refine as1 ?_ | fail)
 refine awp_nilbufO 5 0 37 28 1 (l:=[.nil,.nil,.nil]) (by simp (disch:=(first | omega | (simp;omega))) only [go_sem,w64]) rfl ?_
 refine awp_nilbufO 5 1 43 33 2 (l:=[.buf 37 28 1 [],.nil,.nil]) (by simp (disch:=(first | omega | (simp;omega))) only [go_sem,w64]) rfl ?_
 refine awp_nilbufO 5 2 55 33 2 (l:=[.buf 37 28 1 [],.buf 43 33 2 [],.nil]) (by simp (disch:=(first | omega | (simp;omega))) only [go_sem,w64]) rfl ?_
 refine awp_loopw (fun mm s=>∃ i:Nat,mm=vs.length - i∧i≤vs.length∧s=mkS [(2,.ptr 2 0),(4,.ptr 4 0),(5,.ptr 5 0),(11,.d (.sl 1 (vs.map .int))),(12,.d (.int (vs.length:Nat))),(13,.d (.int (i:Nat)))] [(2,[.d (.int nv),.d (.sl 2 (xs.map atomDV)),.d (.sl 1 (us.map .int))]),(4,[.nil,.nil,.nil]),(5,[.buf 37 28 1 (((vs.take i).map (rowC xs)).map ratsD),.buf 43 33 2 ((List.replicate i q1).map ratDV),.buf 55 33 2 ([])])]) ?_ ?_
 ·refine ⟨_,_,?_,0,rfl,Nat.zero_le _,rfl⟩
  (refine sle_mk ?_ ?_ <;> simp (disch:=(first | omega | (simp;omega))) only [go_sem,w64,intsD,List.take_zero,List.map_nil,List.replicate_zero] <;> exact leafs)
 ·rintro mm s ⟨i,rfl,hi,rfl⟩
  have hvm:(vs.map DV.int).length=vs.length:=List.length_map ..
  have w4:IntKind.i64.wrap ((i:Int)+1)=((i+1:Nat):Int):=by rw [w64 (by omega)];rfl
  repeat' (first | refine sq ?_ | refine stp ?_ | refine blk_o (by decide) ?_ | (apply cb;(focus (simp (disch:=(first | omega | (simp;omega))) only [go_sem,w64];try exact rfl));refine cok ?_) | (refine rgT ?_;intro K hK) | (refine dA ?_;intro K hK) | (with_reducible refine hK _ ?_;clear hK K) | (refine stq ?_;simp (disch:=(first | omega | (simp;omega))) only [go_sem,w64]) | refine as1 ?_ | fail)
  refine awp_if (p:=(i:Int)<(vs.length:Nat)) (by simp (disch:=(first | omega | (simp;omega))) only [go_sem,w64]) ?_ ?_ <;> intro hc
  ·have hi2:i<vs.length:=by omega
   have g0:(vs.map DV.int).getD i (.bool false)=.int (vs.getD i 0):=by simp [List.getD,hi2]
   have ht:=take_mapI (rowC xs) vs 0 hi2
   generalize vs.getD i 0=v at *
   have hxm:(xs.map atomDV).length=xs.length:=List.length_map ..
   repeat' (first | refine sq ?_ | refine stp ?_ | refine blk_o (by decide) ?_ | (apply cb;(focus (simp (disch:=(first | omega | (simp;omega))) only [go_sem,w64,hvm,g0,hxm];try exact rfl));refine cok ?_) | (refine rgT ?_;intro K hK) | (refine dA ?_;intro K hK) | (with_reducible refine hK _ ?_;clear hK K) | (refine stq ?_;simp (disch:=(first | omega | (simp;omega))) only [go_sem,w64,hvm,g0,hxm]) | refine as1 ?_ | fail)
   refine awp_nilbuf 8 8 33 2 (by simp (disch:=(first | omega | (simp;omega))) only [go_sem,w64]) ?_
   refine awp_loopw (fun mm s=>∃ j:Nat,mm=xs.length - j∧j≤xs.length∧s=mkS [(2,.ptr 2 0),(4,.ptr 4 0),(5,.ptr 5 0),(11,.d (.sl 1 (vs.map .int))),(12,.d (.int (vs.length:Nat))),(13,.d (.int (i:Nat))),(7,.d (.int v)),(8,.buf 8 33 2 (((xs.take j).map fun x=>occQ x v).map ratDV)),(18,.d (.sl 2 (xs.map atomDV))),(19,.d (.int (xs.length:Nat))),(20,.d (.int (j:Nat)))] [(2,[.d (.int nv),.d (.sl 2 (xs.map atomDV)),.d (.sl 1 (us.map .int))]),(4,[.nil,.nil,.nil]),(5,[.buf 37 28 1 (((vs.take i).map (rowC xs)).map ratsD),.buf 43 33 2 ((List.replicate i q1).map ratDV),.buf 55 33 2 ([])])]) ?_ ?_
   ·refine ⟨_,_,?_,0,rfl,Nat.zero_le _,rfl⟩
    (refine sle_mk ?_ ?_ <;> simp (disch:=(first | omega | (simp;omega))) only [go_sem,w64,List.take_zero,List.map_nil] <;> exact leafs)
   ·rintro mm s ⟨j,rfl,hj,rfl⟩
    have w5:IntKind.i64.wrap ((j:Int)+1)=((j+1:Nat):Int):=by rw [w64 (by omega)];rfl
    repeat' (first | refine sq ?_ | refine stp ?_ | refine blk_o (by decide) ?_ | (apply cb;(focus (simp (disch:=(first | omega | (simp;omega))) only [go_sem,w64];try exact rfl));refine cok ?_) | (refine rgT ?_;intro K hK) | (refine dA ?_;intro K hK) | (with_reducible refine hK _ ?_;clear hK K) | (refine stq ?_;simp (disch:=(first | omega | (simp;omega))) only [go_sem,w64]) | refine as1 ?_ | fail)
    refine awp_if (p:=(j:Int)<(xs.length:Nat)) (by simp (disch:=(first | omega | (simp;omega))) only [go_sem,w64]) ?_ ?_ <;> intro hc2
    ·have hj2:j<xs.length:=by omega
     have r0:(xs.map atomDV).getD j (.bool false)=atomDV (ax xs j):=getDA' hj2
     have ht2:=take_mapI (fun x=>occQ x v) xs ⟨⟨#[]⟩,[]⟩ hj2
     have hb:(((xs.take j).map fun x=>occQ x v).map ratDV).length=j:=by rw [List.length_map,List.length_map,List.length_take];omega
     have eax:xs.getD j ⟨⟨#[]⟩,[]⟩=ax xs j:=rfl
     rw [eax] at ht2
     generalize ax xs j=x at *
     have hh:=implHasA x v
     have hbt:=implBitA (occ x.vs v)
     repeat' (first | refine sq ?_ | refine stp ?_ | refine blk_o (by decide) ?_ | (apply cb;(focus (simp (disch:=(first | omega | (simp;omega))) only [go_sem,w64,r0,atomDV,intsD];try exact rfl));refine cok ?_) | (refine rgT ?_;intro K hK) | (refine dA ?_;intro K hK) | (with_reducible refine hK _ ?_;clear hK K) | (refine stq ?_;simp (disch:=(first | omega | (simp;omega))) only [go_sem,w64,r0,atomDV,intsD]) | refine as1 ?_ | fail)
     (first | refine callA (hh) ?_ | refine callD (hh) ?_ | refine callE (hh) ?_ | refine callF (hh) ?_ ?_)
     repeat' (first | refine sq ?_ | refine stp ?_ | refine blk_o (by decide) ?_ | (apply cb;(focus (simp (disch:=(first | omega | (simp;omega))) only [go_sem,w64];try exact rfl));refine cok ?_) | (refine rgT ?_;intro K hK) | (refine dA ?_;intro K hK) | (with_reducible refine hK _ ?_;clear hK K) | (refine stq ?_;simp (disch:=(first | omega | (simp;omega))) only [go_sem,w64]) | refine as1 ?_ | fail)
     (first | refine callA (hbt) ?_ | refine callD (hbt) ?_ | refine callE (hbt) ?_ | refine callF (hbt) ?_ ?_)
     repeat' (first | refine sq ?_ | refine stp ?_ | refine blk_o (by decide) ?_ | (apply cb;(focus (simp (disch:=(first | omega | (simp;omega))) only [go_sem,w64,w5,hb];try exact rfl));refine cok ?_) | (refine rgT ?_;intro K hK) | (refine dA ?_;intro K hK) | (with_reducible refine hK _ ?_;clear hK K) | (refine stq ?_;simp (disch:=(first | omega | (simp;omega))) only [go_sem,w64,w5,hb]) | refine as1 ?_ | fail)
     refine ⟨xs.length - (j+1),_,by omega,?_,j+1,rfl,by omega,rfl⟩
     rw [ht2,List.map_append]
     (refine sle_mk ?_ ?_ <;> simp (disch:=(first | omega | (simp;omega))) only [go_sem,w64,List.map_cons,List.map_nil,occQ,ratDV] <;> exact leafs)
    ·obtain rfl:j=xs.length:=by omega
     have e1:(xs.take xs.length).map (fun x=>occQ x v)=rowC xs v:=by rw [List.take_length];rfl
     rw [e1]
     have hrm:((rowC xs v).map ratDV).length=xs.length:=by simp [rowC]
     have hb1:(((vs.take i).map (rowC xs)).map ratsD).length=i:=by rw [List.length_map,List.length_map,List.length_take];omega
     have hb2:((List.replicate i q1).map ratDV).length=i:=by simp
     repeat' (first | refine sq ?_ | refine stp ?_ | refine blk_o (by decide) ?_ | (apply cb;(focus (simp (disch:=(first | omega | (simp;omega))) only [go_sem,w64];try exact rfl));refine cok ?_) | (with_reducible refine hK _ ?_;clear hK K) | (refine stq ?_;simp (disch:=(first | omega | (simp;omega))) only [go_sem,w64]) | refine as1 ?_ | fail)
     refine awp_region' tyT_ok ?_;intro K hK
     repeat' (first | refine sq ?_ | refine stp ?_ | refine blk_o (by decide) ?_ | (apply cb;(focus (simp (disch:=(first | omega | (simp;omega))) only [go_sem,w64,hrm,hb1];try exact rfl));refine cok ?_) | (with_reducible refine hK _ ?_;clear hK K) | (refine stq ?_;simp (disch:=(first | omega | (simp;omega))) only [go_sem,w64,hrm,hb1]) | refine as1 ?_ | fail)
     refine awp_regionY (o:=?o) tyT_ok 2 ?h1 ?h2 ?h3
     case h1=>rfl
     case h2=>rfl
     intro K K2 hK hK2
     repeat' (first | refine sq ?_ | refine stp ?_ | refine blk_o (by decide) ?_ | (apply cb;(focus (simp (disch:=(first | omega | (simp;omega))) only [go_sem,w64,hb2];try exact rfl));refine cok ?_) | (with_reducible refine hK _ ?_;clear hK K) | (refine stq ?_;simp (disch:=(first | omega | (simp;omega))) only [go_sem,w64,hb2]) | refine as1 ?_ | fail)
     refine lloadG tyT_ok rfl rfl rfl rfl rfl (hK2 _ ?_)
     clear hK2 K2
     repeat' (first | refine sq ?_ | refine stp ?_ | refine blk_o (by decide) ?_ | (apply cb;(focus (simp (disch:=(first | omega | (simp;omega))) only [go_sem,w64,w4,hb2];try exact rfl));refine cok ?_) | (refine rgT ?_;intro K hK) | (refine dA ?_;intro K hK) | (with_reducible refine hK _ ?_;clear hK K) | (refine stq ?_;simp (disch:=(first | omega | (simp;omega))) only [go_sem,w64,w4,hb2]) | refine as1 ?_ | fail)
     refine ⟨vs.length - (i+1),_,by omega,?_,i+1,rfl,by omega,rfl⟩
     rw [ht,rep_succ,List.map_append,List.map_append]
     (refine sle_mk ?_ ?_ <;> simp (disch:=(first | omega | (simp;omega))) only [go_sem,w64,List.map_cons,List.map_nil,ratDV,q1] <;> exact leafs)
  ·obtain rfl:i=vs.length:=by omega
   rw [List.take_length]
   have hxm:(xs.map atomDV).length=xs.length:=List.length_map ..
   repeat' (first | refine sq ?_ | refine stp ?_ | refine blk_o (by decide) ?_ | (apply cb;(focus (simp (disch:=(first | omega | (simp;omega))) only [go_sem,w64,hxm];try exact rfl));refine cok ?_) | (refine rgT ?_;intro K hK) | (refine dA ?_;intro K hK) | (with_reducible refine hK _ ?_;clear hK K) | (refine stq ?_;simp (disch:=(first | omega | (simp;omega))) only [go_sem,w64,hxm]) | refine as1 ?_ | fail)
   refine awp_loopw (fun mm s=>∃ j:Nat,mm=xs.length - j∧j≤xs.length∧s=mkS [(2,.ptr 2 0),(4,.ptr 4 0),(5,.ptr 5 0),(48,.d (.int (xs.length:Nat))),(49,.d (.int (j:Nat)))] [(4,[.nil,.nil,.nil]),(5,[.buf 37 28 1 ((cvA vs xs).map ratsD),.buf 43 33 2 ((List.replicate vs.length q1).map ratDV),.buf 55 33 2 ((List.replicate j q1).map ratDV)])]) ?_ ?_
   ·refine ⟨_,_,?_,0,rfl,Nat.zero_le _,rfl⟩
    (refine sle_mk ?_ ?_ <;> simp (disch:=(first | omega | (simp;omega))) only [go_sem,w64,List.replicate_zero,List.map_nil,cvA] <;> exact leafs)
   ·rintro mm s ⟨j,rfl,hj,rfl⟩
    have w5:IntKind.i64.wrap ((j:Int)+1)=((j+1:Nat):Int):=by rw [w64 (by omega)];rfl
    have hb2:((List.replicate j q1).map ratDV).length=j:=by simp
    repeat' (first | refine sq ?_ | refine stp ?_ | refine blk_o (by decide) ?_ | (apply cb;(focus (simp (disch:=(first | omega | (simp;omega))) only [go_sem,w64];try exact rfl));refine cok ?_) | (refine rgT ?_;intro K hK) | (refine dA ?_;intro K hK) | (with_reducible refine hK _ ?_;clear hK K) | (refine stq ?_;simp (disch:=(first | omega | (simp;omega))) only [go_sem,w64]) | refine as1 ?_ | fail)
    refine awp_if (p:=(j:Int)<(xs.length:Nat)) (by simp (disch:=(first | omega | (simp;omega))) only [go_sem,w64]) ?_ ?_ <;> intro hc2
    ·repeat' (first | refine sq ?_ | refine stp ?_ | refine blk_o (by decide) ?_ | (apply cb;(focus (simp (disch:=(first | omega | (simp;omega))) only [go_sem,w64];try exact rfl));refine cok ?_) | (with_reducible refine hK _ ?_;clear hK K) | (refine stq ?_;simp (disch:=(first | omega | (simp;omega))) only [go_sem,w64]) | refine as1 ?_ | fail)
     refine awp_regionY (o:=?o2) tyT_ok 2 ?h4 ?h5 ?h6
     case h4=>rfl
     case h5=>rfl
     intro K K2 hK hK2
     repeat' (first | refine sq ?_ | refine stp ?_ | refine blk_o (by decide) ?_ | (apply cb;(focus (simp (disch:=(first | omega | (simp;omega))) only [go_sem,w64,hb2];try exact rfl));refine cok ?_) | (with_reducible refine hK _ ?_;clear hK K) | (refine stq ?_;simp (disch:=(first | omega | (simp;omega))) only [go_sem,w64,hb2]) | refine as1 ?_ | fail)
     refine lloadG tyT_ok rfl rfl rfl rfl rfl (hK2 _ ?_)
     clear hK2 K2
     repeat' (first | refine sq ?_ | refine stp ?_ | refine blk_o (by decide) ?_ | (apply cb;(focus (simp (disch:=(first | omega | (simp;omega))) only [go_sem,w64,w5,hb2];try exact rfl));refine cok ?_) | (refine rgT ?_;intro K hK) | (refine dA ?_;intro K hK) | (with_reducible refine hK _ ?_;clear hK K) | (refine stq ?_;simp (disch:=(first | omega | (simp;omega))) only [go_sem,w64,w5,hb2]) | refine as1 ?_ | fail)
     refine ⟨xs.length - (j+1),_,by omega,?_,j+1,rfl,by omega,rfl⟩
     rw [rep_succ,List.map_append]
     (refine sle_mk ?_ ?_ <;> simp (disch:=(first | omega | (simp;omega))) only [go_sem,w64,List.map_cons,List.map_nil,ratDV,q1] <;> exact leafs)
    ·obtain rfl:j=xs.length:=by omega
     repeat' (first | refine sq ?_ | refine stp ?_ | refine blk_o (by decide) ?_ | (apply cb;(focus (simp (disch:=(first | omega | (simp;omega))) only [go_sem,w64];try exact rfl));refine cok ?_) | (refine rgT ?_;intro K hK) | (refine dA ?_;intro K hK) | (with_reducible refine hK _ ?_;clear hK K) | (refine stq ?_;simp (disch:=(first | omega | (simp;omega))) only [go_sem,w64]) | refine as1 ?_ | fail)
     (refine endA (r:=.d (.agg [matD (cvA vs xs),ratsD (List.replicate vs.length q1),ratsD (List.replicate xs.length q1)])) ?_)
     exact ⟨rfl,rfl⟩
theorem implDefA' (nv:Int) (xs:List AtomD) (us:List Int) (hn:NmOK xs):AFn 46 [.d (queryD nv xs us)] [] (fun r os=>r=.d (intsD (defF nv xs us))∧os=[]):=by
 refine own_afn (fnOK (by kernel_rfl)) ?_
 rintro w G _ ⟨v1,_,rfl,h1,rfl⟩ hC
 obtain ⟨a,n,c,ua,un,uc,rfl,hI⟩:=cv_query hC hn h1
 exact implDefOrd nv a n c xs ua un uc us w hI (Nat.le_refl _)
noncomputable def cpF (nv:Int) (xs:List AtomD) (us:List Int):LpS:=if qOK nv xs us=true then ⟨cvA (idTo nv.toNat) xs,List.replicate nv.toNat q1,List.replicate xs.length q1,true⟩ else ⟨[],[],[],false⟩
theorem qOK_sz {nv:Int} {xs:List AtomD} {us:List Int} (h:qOK nv xs us=true):(1≤nv∧nv≤5)∧1≤xs.length∧xs.length≤4:=by
 obtain ⟨⟨v,n1,n2⟩,_⟩:=qOK_out h
 exact ⟨v,n1,by omega⟩
set_option maxRecDepth 100000 in
theorem implCoverG (nv:Int) (xs:List AtomD) (us:List Int) (hn:NmOK xs):AFnG 19 [.d (queryD nv xs us)] (fun r os=>r=ansP (cpF nv xs us)∧os=[]):=by
 refine afn_ofG (rv:=[.cell 2 43,.tmp 3]) tyT_ok Tryd.func19 rfl (by decide +kernel) Tryd.ntmps19 rfl (by simp) ?_
 repeat' (first | refine sq ?_ | refine stp ?_ | refine blk_o (by decide) ?_ | (apply cb;(focus (simp (disch:=(first | omega | (simp;omega))) only [go_sem,w64,queryD,intsD];try exact rfl));refine cok ?_) | (refine rgT ?_;intro K hK) | (refine dA ?_;intro K hK) | (with_reducible refine hK _ ?_;clear hK K) | (refine stq ?_;simp (disch:=(first | omega | (simp;omega))) only [go_sem,w64,queryD,intsD]) | refine as1 ?_ | fail)
 (first | refine callA (implValidQA nv xs us hn) ?_ | refine callD (implValidQA nv xs us hn) ?_ | refine callE (implValidQA nv xs us hn) ?_ | refine callF (implValidQA nv xs us hn) ?_ ?_)
 cases hq:qOK nv xs us with
 | false =>
  repeat' (first | refine sq ?_ | refine stp ?_ | refine blk_o (by decide) ?_ | (apply cb;(focus (simp (disch:=(first | omega | (simp;omega))) only [go_sem,w64,hq];try exact rfl));refine cok ?_) | (refine rgT ?_;intro K hK) | (refine dA ?_;intro K hK) | (with_reducible refine hK _ ?_;clear hK K) | (refine stq ?_;simp (disch:=(first | omega | (simp;omega))) only [go_sem,w64,hq]) | refine as1 ?_ | fail)
  refine endA (r:=.tup [.d (.agg [.sl 1 [],.sl 2 [],.sl 2 []]),.d (.bool false)]) (h:=(by simp (disch:=(first | omega | (simp;omega))) only [go_sem,w64];exact noLp)) ?_
  exact ⟨by unfold cpF;rw [if_neg (by rw [hq];simp)];rfl,rfl⟩
 | true =>
  obtain ⟨⟨v1,v2⟩,x1,x2⟩:=qOK_sz hq
  have hdl:(idTo nv.toNat).length=nv.toNat:=idTo_len _
  have hdf:=implDefA' nv xs us hn
  have e0:defF nv xs us=idTo nv.toNat:=by unfold defF;rw [if_pos hq]
  rw [e0] at hdf
  have hco:=implCoverOfG nv xs us (idTo nv.toNat) (by omega) (by omega)
  rw [hdl] at hco
  repeat' (first | refine sq ?_ | refine stp ?_ | refine blk_o (by decide) ?_ | (apply cb;(focus (simp (disch:=(first | omega | (simp;omega))) only [go_sem,w64,hq];try exact rfl));refine cok ?_) | (refine rgT ?_;intro K hK) | (with_reducible refine hK _ ?_;clear hK K) | (refine stq ?_;simp (disch:=(first | omega | (simp;omega))) only [go_sem,w64,hq]) | refine as1 ?_ | fail)
  refine awp_drawY (o:=?o) tyT_ok (by kernel_rfl) 3 ?h1 ?h2 ?h3 ?h4 ?h5 ?h6
  case h1=>rfl
  case h2=>rfl
  case h3=>kernel_rfl
  case h4=>kernel_rfl
  case h5=>kernel_rfl
  intro K K2 hK hK2
  repeat' (first | refine sq ?_ | refine stp ?_ | refine blk_o (by decide) ?_ | (apply cb;(focus (simp (disch:=(first | omega | (simp;omega))) only [go_sem,w64];try exact rfl));refine cok ?_) | (with_reducible refine hK _ ?_;clear hK K) | (refine stq ?_;simp (disch:=(first | omega | (simp;omega))) only [go_sem,w64]) | refine as1 ?_ | fail)
  (first | refine callA (hdf) ?_ | refine callD (hdf) ?_ | refine callE (hdf) ?_ | refine callF (hdf) ?_ ?_)
  repeat' (first | refine sq ?_ | refine stp ?_ | refine blk_o (by decide) ?_ | (apply cb;(focus (simp (disch:=(first | omega | (simp;omega))) only [go_sem,w64];try exact rfl));refine cok ?_) | (with_reducible refine hK _ ?_;clear hK K) | (refine stq ?_;simp (disch:=(first | omega | (simp;omega))) only [go_sem,w64]) | refine as1 ?_ | fail)
  refine lcallG 11 rfl rfl rfl (by decide) hco (by (repeat (first | exact ASubs.nil | refine ASubs.cons (by first | exact ASub.d _ | exact ASub.dd (dle_wh _ _) | exact ASub.dd (dle_rowsV _) | exact ASub.dd (dle_rowsW _) | exact ASub.dd (dle_relW _ _) | exact ASub.bufd _ _ (dle_rowsV _) | exact ASub.nil _ | exact ASub.nn | exact ASub.buf _ _ _ _ | exact ASub.loc _ | exact ASub.ptr _ _ _ rfl | exact ASub.arr _ _ _ _ rfl | exact ASub.any _ | exact ASub.std rfl (dle_refl _)) ?_));done) ?_
  rintro r os ⟨rfl,rfl⟩
  refine ⟨by simp,hK2 _ ?_⟩
  clear hK2 K2
  repeat' (first | refine sq ?_ | refine stp ?_ | refine blk_o (by decide) ?_ | (apply cb;(focus (simp (disch:=(first | omega | (simp;omega))) only [go_sem,w64,lpD,matD,ratsD];try exact rfl));refine cok ?_) | (refine rgT ?_;intro K hK) | (refine dA ?_;intro K hK) | (with_reducible refine hK _ ?_;clear hK K) | (refine stq ?_;simp (disch:=(first | omega | (simp;omega))) only [go_sem,w64,lpD,matD,ratsD]) | refine as1 ?_ | fail)
  (refine endA (r:=.tup [.d (.agg [matD (cvA (idTo nv.toNat) xs),ratsD (List.replicate nv.toNat q1),ratsD (List.replicate xs.length q1)]),.d (.bool true)]) ?_)
  exact ⟨by unfold cpF;rw [if_pos hq];rfl,rfl⟩
end Go.Proofs.YtkohkoiegmcghaaDoor
