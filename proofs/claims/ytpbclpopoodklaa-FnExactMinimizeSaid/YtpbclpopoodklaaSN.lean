/- Lemmas for the proof of FnExactMaximize, part 35 of 56: no condition of their own. -/
import Derived.Test.YtpbclpopoodklaaSM
import Derived.Test.YtpbclpopoodklaaSX
namespace Go.Proofs.Ytpbclpopoodklaa
set_option linter.unusedSimpArgs false
set_option linter.unusedVariables false
open Go.RowKit
section
variable {ty:TypeId→Option TyI}
theorem wp_drawLast (ht:TabOK ty) (hm:Try.prog.follows .mixedOrders=true) {id:Nat} {l:List Oper} (n:Nat) {o:Oper} (hn:l.length=n+1) (ho:l[n]? = some o) (hg:o.guard=none)
    (hB:drawB l ((List.range l.length).map (flAt l))=true) (hR:(List.range n).all (fun j=>reachF l.toArray l.length n j)=true) {X:Cx} {s:AS} {a:Act} {w:World} {Q:Exit→Act→World→Prop} {K:AS→Prop} (hr:Rel X s a w.drew) (hw:wops ty X.N l (l.take n) 0 s K)
    (hs:∀ s1 a1 w1,K s1→Rel X s1 a1 w1→(∀ t,(∀ o∈l.take n,o.dst ≠ some t)→a1.tmps.getD t undef=a.tmps.getD t undef)→o.wp Try.prog a1 w1 (Q .normal) Q):(Code.region id l.toArray true).wp Try.prog Q a w:=by
  have hlt:(l.take n).length=n:=by simp [hn]
  have hwo:=wops_ok (ty:=ty) (N:=X.N) (ops:=l) (fls:=(List.range l.length).map (flAt l)) (fun i hi=>by simp [List.getD,hi]) (l.take n) 0 s (K:=K) (fun j hj=>by rw [hlt] at hj;simp [List.getElem?_take,hj]) hw
  rw [hlt] at hwo
  generalize hfl:(List.range l.length).map (flAt l)=fls at hB hwo
  have hchk:∀ i o,l[i]? = some o→(∀ e∈o.after,Region.binds .any e=true→e.on<i)∧∀ j,j<i→reachF l.toArray l.length i j=true∨∀ p,l[j]? = some p→Ind l (fls.getD j []) (fls.getD i []) p o:=by
    intro i o ho
    have hi:=(List.getElem?_eq_some_iff.1 ho).1
    have:=List.all_eq_true.1 hB i (List.mem_range.2 hi)
    rw [ho] at this
    simp only [Bool.and_eq_true] at this
    refine ⟨fun e he hb=>?_,fun j hj=>?_⟩
    · have h1:=List.all_eq_true.1 this.1 e (by simpa using he)
      rw [hb] at h1
      simpa using h1
    · have h1:=List.all_eq_true.1 this.2 j (List.mem_range.2 hj)
      simp only [Bool.or_eq_true] at h1
      rcases h1 with h1 | h1
      · exact .inl h1
      · refine .inr fun p hp=>?_
        rw [hp] at h1
        exact ind_of h1
  refine wp_region_inv hm (fun d a' w'=>(d n=false∧(∃ s',Rel X s' a' w'∧aopsD ty X.N l fls ((List.range n).filter fun i=>!d i) s' K)∧∀ t,(∀ o∈l.take n,o.dst ≠ some t)→a'.tmps.getD t undef=a.tmps.getD t undef)∨(d n=true∧(∀ j,j<n→d j=true)∧Q .normal a' w')) (fun i o ho=>(hchk i o (by simpa using ho)).1) ?_ ?_ ?_
  · refine .inl ⟨rfl,⟨s,hr,?_⟩,fun t _=>rfl⟩
    have:(List.range n).filter (fun i=>!(fun _=>false:Nat→Bool) i)=List.range n:=by simp
    rw [this,List.range_eq_range']
    exact hwo
  · rintro d a' w' i o' ho2 hd hdeps hcl hbig hI
    have ho':l[i]? = some o':=by simpa using ho2
    have hi:=(List.getElem?_eq_some_iff.1 ho').1
    have hreach:∀ j,reachF l.toArray l.length i j=true→d j=true:=fun j hj=>reachF_done (ops:=l.toArray) hcl l.length i j (fun o' h2=>by rw [ho2] at h2;cases h2;exact hdeps) hj
    rcases hI with ⟨hdn,⟨s',⟨G',hr'⟩,ha⟩,hk⟩ | ⟨hdn,hall,_⟩
    · by_cases hin:i=n
      · subst hin
        obtain rfl:o=o':=by rw [ho] at ho';exact Option.some.inj ho'
        have hall:∀ j,j<i→d j=true:=fun j hj=>hreach j (List.all_eq_true.1 hR j (List.mem_range.2 hj))
        have e0:(List.range i).filter (fun i=>!d i)=[]:=by
          rw [List.filter_eq_nil_iff]
          intro x hx
          simp [hall x (List.mem_range.1 hx)]
        rw [e0] at ha
        unfold wpOp
        rw [ho2]
        simp only
        rw [if_pos (by simp [Region.wanted,hg])]
        refine .inl (Oper.wp_mono (fun a2 w2 h3=>?_) (hs s' a' w' ha ⟨G',hr'⟩ hk))
        exact .inr ⟨by simp,fun j hj=>by simp [show ¬ j=i by omega,hall j hj],h3⟩
      · have hin':i<n:=by omega
        obtain ⟨post,e1,e2⟩:=filter_split (fun j=>!d j) n i hin' (by simp [hd])
        rw [e1] at ha
        have hfr:=front (ty:=ty) (N:=X.N) ht ho' _ s' (fun j hj p hp=>by
          obtain ⟨hj1,hj2⟩:=List.mem_filter.1 hj
          have hji:j<i:=List.mem_range.1 hj1
          rcases (hchk i o' ho').2 j hji with h1 | h1
          · exfalso
            rw [hreach j h1] at hj2;cases hj2
          · exact h1 p hp) ha
        have hst:=stepD_ok (Q:=Q) (nx:=fun a2 w2=>∃ s2,Rel X s2 a2 w2∧aopsD ty X.N l fls ((List.range i).filter (fun j=>!d j) ++ post) s2 K) ht rfl hr' ho' hfr (fun s2 a2 w2 h5 h6=>⟨s2,h6,h5⟩)
        refine wpOp_mono ?_ (wpOp_keep ho2 hst)
        rintro a2 w2 ⟨⟨s2,h6,h5⟩,h7⟩
        refine .inl ⟨?_,⟨s2,h6,?_⟩,fun t htt=>?_⟩
        · show (if n=i then true else d n)=false
          rw [if_neg (fun e=>hin e.symm)];exact hdn
        · have e3:(List.range n).filter (fun j=>!(if j=i then true else d j))=(List.range n).filter (fun j=>(fun j=>!d j) j && !(j == i)):=by
            apply List.filter_congr
            intro x _
            by_cases ex:x=i
            · simp [ex]
            · simp [ex]
          rw [e3,e2];exact h5
        · rw [h7 t (htt o' ?_),hk t htt]
          refine List.mem_iff_getElem?.2 ⟨i,?_⟩
          rw [List.getElem?_take_of_lt hin']
          exact ho'
    · exfalso
      by_cases hin:i=n
      · rw [hin,hdn] at hd;cases hd
      · rw [hall i (by omega)] at hd;cases hd
  · rintro d a' w' hall hbig hI
    rcases hI with ⟨hdn,_⟩ | ⟨_,_,h⟩
    · have:=hall n (by simp [hn])
      rw [hdn] at this;cases this
    · exact h
end
def CW (X:Cx) (QF:Exit→Act→World→Prop) (c:Code) (s:AS):Prop:=∀ a w,Rel X s a w→c.wp Try.prog QF a w
def CWq (X:Cx) (QF:Exit→Act→World→Prop):Exit→AS→Prop
  | .ret,s=>∀ a w,Rel X s a w→QF .ret a w
  | _,_=>False
theorem cw_seq {X:Cx} {QF:Exit→Act→World→Prop} {x y:Code} {s:AS} {N:Nat} (hN:X.N=N) (h:AWp (fun X'=>X'=X) N x (thenA (CW X QF y) (CWq X QF)) s):CW X QF (.seq x y) s:=by
  intro a w hr
  refine wp_seq (wp_mono (h X a w hN rfl hr) ?_)
  rintro e a' w' ⟨s',h1,h2⟩
  cases e with
  | normal=>exact h1 a' w' h2
  | ret=>exact h1 a' w' h2
  | _=>exact h1.elim
theorem cw_weak {X:Cx} {QF:Exit→Act→World→Prop} {c:Code} {s s':AS} (h:SLe s s') (hh:CW X QF c s'):CW X QF c s:=fun a w hr=>hh a w (hr.weak h)
theorem cw_region {X:Cx} {QF:Exit→Act→World→Prop} {s:AS} {ty:TypeId→Option TyI} (ht:TabOK ty) {N:Nat} (hN:X.N=N) (n:Nat) {id:Nat} {l:List Oper} (h:∀ K:AS→Prop,(∀ s1,(∀ a w,Rel X s1 a w→wpList Try.prog l.toArray QF (l.drop n) a w)→K s1)→aops ty N l (l.take n) s K):CW X QF (.region id l.toArray false) s:=by
  intro a w hr
  subst hN
  refine wp_region_lit ?_
  have key:=aops_okP (X:=X) ht (ops:=l) (Q:=QF) (tl:=l.drop n) (K:=fun s1=>∀ a w,Rel X s1 a w→wpList Try.prog l.toArray QF (l.drop n) a w) (fun s1 a1 w1 h1 h2=>h1 a1 w1 h2) (l.take n) s a w (h _ fun _ h=>h) hr
  rw [List.take_append_drop] at key
  exact key
theorem cwq_ret {X:Cx} {QF:Exit→Act→World→Prop} {s:AS} (h:∀ a w,Rel X s a w→QF .ret a w):CWq X QF .ret s:=h
structure OutW (C:Nat→Nat→Prop) (w:World) (bo:Nat) (hdr:Value) (outs:List (List RatD)):Prop where
  lt:bo<w.heap.size
  noC:∀ i,¬ C bo i
  cell:w.cell? ⟨bo,0,none⟩=some hdr
  frz:w.frozen? ⟨bo,0,none⟩=false
  buf:∃ a m c vs,hdr=.slice a m c∧OwnF 29 1 0 w a m c vs∧CXk C w 1 (outs.map whQ) vs∧∀ b,a=some ⟨b,0,none⟩→b ≠ bo∧∀ i,¬ C b i
structure ChR (C C':Nat→Nat→Prop) (w w':World) (bo:Nat) (hdr hdr':Value):Prop where
  os:w'.os=w.os
  tape:w'.tape=w.tape
  output:w'.output=w.output
  size:w.heap.size≤w'.heap.size
  block:∀ k,k<w.heap.size→k ≠ bo→hdr.ownBlock ≠ some k→w'.heap[k]? = w.heap[k]?
  own:∀ b,hdr'.ownBlock=some b→hdr.ownBlock=some b∨w.heap.size≤b
  cc:∀ b i,C b i→C' b i
  cs:∀ b i,C' b i→b<w'.heap.size
  lc:∀ b i,C' b i→b<w.heap.size→C b i
  uf:∀ b i,C' b i→w.heap.size≤b→w'.frozen? ⟨b,i,none⟩=false
theorem ChR.refl {C:Nat→Nat→Prop} {w:World} (bo:Nat) (hdr:Value) (hc:∀ b i,C b i→b<w.heap.size):ChR C C w w bo hdr hdr :=
  ⟨rfl,rfl,rfl,Nat.le_refl _,fun _ _ _ _=>rfl,fun _ h=>.inl h,fun _ _ h=>h,hc,fun _ _ h _=>h,fun b i h hz=>by have:=hc b i h;omega⟩
theorem ChR.trans {C C' C'':Nat→Nat→Prop} {w w' w'':World} {bo:Nat} {h h' h'':Value} (a:ChR C C' w w' bo h h') (b:ChR C' C'' w' w'' bo h' h'') (hb:bo<w.heap.size) (hnC:∀ i,¬ C' bo i) (hnh:∀ q,h'.ownBlock=some q→∀ i,¬ C' q i):ChR C C'' w w'' bo h h'':=by
  refine ⟨b.os.trans a.os,b.tape.trans a.tape,b.output.trans a.output,Nat.le_trans a.size b.size,fun k hk h1 h2=>?_,fun q hq=>?_,fun q i hc=>b.cc q i (a.cc q i hc),b.cs,fun q i hc hq=>a.lc q i (b.lc q i hc (Nat.lt_of_lt_of_le hq a.size)) hq,fun q i hc hz=>?_⟩
  · rw [b.block k (Nat.lt_of_lt_of_le hk a.size) h1 (fun e=>?_),a.block k hk h1 h2]
    rcases a.own k e with h3 | h3
    · exact h2 h3
    · omega
  · rcases b.own q hq with h3 | h3
    · exact a.own q h3
    · exact .inr (Nat.le_trans a.size h3)
  · by_cases e:q<w'.heap.size
    · have h5:=b.lc q i hc e
      have h6:=a.uf q i h5 hz
      rw [World.frozen?_of_block (w:=w') (b.block q e (fun e2=>hnC i (e2 ▸ h5)) (fun e2=>hnh q e2 i h5))]
      exact h6
    · exact b.uf q i hc (by omega)
theorem ChR.stay {C C':Nat→Nat→Prop} {w w':World} {bo:Nat} {h h':Value} (a:ChR C C' w w' bo h h') (hc:∀ b i,C b i→b<w.heap.size) (hnC:∀ i,¬ C bo i) (hnh:∀ q,h.ownBlock=some q→∀ i,¬ C q i):Stay C C' w w':=fun b i hcb =>
  ⟨a.cc b i hcb,World.cell?_of_block (w:=w) (a.block b (hc b i hcb) (fun e=>hnC i (e ▸ hcb)) (fun e=>hnh b e i hcb))⟩
theorem OutW.own {C:Nat→Nat→Prop} {w:World} {bo:Nat} {hdr:Value} {outs:List (List RatD)} (h:OutW C w bo hdr outs):∀ q,hdr.ownBlock=some q→q ≠ bo∧q<w.heap.size∧∀ i,¬ C q i:=by
  obtain ⟨a,m,c,vs,rfl,h1,h2,h3⟩:=h.buf
  intro q hq
  rcases h1.1.2 with ⟨e,_⟩ | ⟨g,cap,cur,e,_,hg,_⟩
  · rw [e] at hq;cases hq
  · simp only [Value.slice.injEq] at e
    obtain ⟨rfl,_,_⟩:=e
    simp only [Value.ownBlock,Option.some.injEq] at hq
    subst hq
    exact ⟨(h3 _ rfl).1,(Array.getElem?_eq_some_iff.1 hg).1,(h3 _ rfl).2⟩
theorem OutW.cellsC {C C':Nat→Nat→Prop} {w w':World} {bo:Nat} {hdr:Value} {outs:List (List RatD)} (h:OutW C w bo hdr outs) (hst:Stay C C' w w') (hbo:w'.heap[bo]? = w.heap[bo]?) (hown:∀ q,hdr.ownBlock=some q→w'.heap[q]? = w.heap[q]?) (hsz:w.heap.size≤w'.heap.size) (hn1:∀ i,¬ C' bo i) (hn2:∀ q,hdr.ownBlock=some q→∀ i,¬ C' q i):OutW C' w' bo hdr outs:=by
  obtain ⟨h1,h2,h3,h4,a,m,c,vs,rfl,g1,g2,g3⟩:=h
  refine ⟨Nat.lt_of_lt_of_le h1 hsz,hn1,by rw [World.cell?_of_block (w:=w) hbo];exact h3,by rw [World.frozen?_of_block (w:=w) hbo];exact h4,a,m,c,vs,rfl,⟨⟨g1.1.1,?_⟩,g1.2⟩,CXk.stay hst 1 _ _ g2,fun b hb=>⟨(g3 b hb).1,hn2 b (by rw [hb];rfl)⟩⟩
  rcases g1.1.2 with p1 | ⟨g0,cap,cur,p1,p2,p3,p4⟩
  · exact .inl p1
  · refine .inr ⟨g0,cap,cur,p1,p2,?_,p4⟩
    rw [hown g0 (by rw [p1];rfl)]
    exact p3
section
variable (A:List (List RatD)) (B Cc:List RatD) (rows:List (List RatD)) (right:List RatD) (sg:Int)
def envL (n:Nat) (fv:Value):List AV:=[.loc [.int (n:Nat)],.loc [matD rows],.loc [.hv fv],.loc [ratsD right],.loc [matD A,ratsD B,ratsD Cc],.loc [.int sg]]
end
end Go.Proofs.Ytpbclpopoodklaa
