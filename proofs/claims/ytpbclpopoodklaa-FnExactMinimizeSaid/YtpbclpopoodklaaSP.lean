/- Lemmas for the proof of FnExactMaximize, part 36 of 56: no condition of their own. -/
import Derived.Test.YtpbclpopoodklaaSN
namespace Go.Proofs.Ytpbclpopoodklaa
set_option linter.unusedSimpArgs false
set_option linter.unusedVariables false
attribute [local go_sem ↓] reduceIte
attribute [local go_sem] Nat.reduceEqDiff Nat.reduceLT Nat.reduceAdd Nat.reduceLeDiff Nat.reduceMul Nat.reduceBEq Nat.reduceSub reduceCtorEq Int.reduceLE Int.reduceNeg Int.reduceLT
open Go.RowKit
def chD (ch:List Nat):DV:=.sl 1 (ch.map fun k:Nat=>DV.int k)
structure LeafX (X:Cx) (C:Nat→Nat→Prop) (w:World) (bo:Nat) (hdr:Value) (m:Nat):Prop where
  w0:X.w0=w
  L:∀ b,X.L b↔b=bo
  C0:∀ b i,X.C0 b i↔C b i∨(hdr.ownBlock=some b∧i<m)
  A:X.A 0=bo
section
variable {X:Cx} {C:Nat→Nat→Prop} {w:World} {bo:Nat} {hdr:Value} {outs:List (List RatD)}
theorem leaf_blk (hX:LeafX X C w bo hdr outs.length) {G:Gh} {s:AS} {a:Act} {w':World} (hr:RelG X G s a w'):∀ k,k<w.heap.size→k ≠ bo→w'.heap[k]? = w.heap[k]?:=fun k hk hne=>by
  have:=hr.fr.block k (by rw [hX.w0];exact hk) (fun h=>hne ((hX.L k).1 h))
  rw [hX.w0] at this;exact this
theorem leaf_size (hX:LeafX X C w bo hdr outs.length) {G:Gh} {s:AS} {a:Act} {w':World} (hr:RelG X G s a w'):w.heap.size≤w'.heap.size:=by
  have:=hr.fr.size;rw [hX.w0] at this;exact this
theorem leaf_ad (hX:LeafX X C w bo hdr outs.length) {G:Gh} {s:AS} {a:Act} {w':World} (hr:RelG X G s a w') {l:List AV} (hob:s.ob 1000000=some l):G.ad 1000000=bo:=by
  have:=hr.ln 0 (by rw [hob];exact fun x=>(by cases x))
  rw [hX.A] at this;exact this
theorem leaf_cell (hX:LeafX X C w bo hdr outs.length) {G:Gh} {s:AS} {a:Act} {w':World} (hr:RelG X G s a w') (hob:s.ob 1000000=some [.d (.hv hdr)]):w'.cell? ⟨bo,0,none⟩=some hdr∧w'.frozen? ⟨bo,0,none⟩=false:=by
  obtain ⟨g1,g2,us,g3,g4,g5⟩:=hr.ob _ _ hob
  rw [leaf_ad hX hr hob] at g5
  obtain ⟨v,us',rfl,⟨zs,⟨hz,_⟩,h2⟩,rfl⟩:=g3
  rcases h2 with ⟨⟨m,e⟩,_⟩ | ⟨_,h2⟩
  · cases e
  · rw [hz] at h2;cases h2
    exact g5 0 hdr rfl
theorem leaf_same (hC:∀ b i,C b i→b<w.heap.size) (hO:OutW C w bo hdr outs) (hX:LeafX X C w bo hdr outs.length) {s:AS} {a:Act} {w':World} (h:Rel X s a w') (hob:s.ob 1000000=some [.d (.hv hdr)]):a.defers=[]∧ChR C C w w' bo hdr hdr∧OutW C w' bo hdr outs:=by
  obtain ⟨G,hr⟩:=h
  have hblk:=leaf_blk hX hr
  have hfr:=hr.fr
  rw [hX.w0] at hfr
  have hst:Stay C C w w':=fun b i hc=>⟨hc,World.cell?_of_block (w:=w) (hblk b (hC b i hc) (fun e=>hO.noC i (e ▸ hc)))⟩
  obtain ⟨hc1,hc2⟩:=leaf_cell hX hr hob
  refine ⟨hr.df,⟨hfr.os,hfr.tape,hfr.output,hfr.size,fun k hk h1 _=>hblk k hk h1,fun b hb=>.inl hb,fun _ _ h=>h,fun b i hc=>Nat.lt_of_lt_of_le (hC b i hc) hfr.size,fun _ _ h _=>h,fun b i hc hz=>by have:=hC b i hc;omega⟩,?_⟩
  obtain ⟨h1,h2,h3,h4,a0,m,c,vs,rfl,g1,g2,g3⟩:=hO
  refine ⟨Nat.lt_of_lt_of_le h1 hfr.size,h2,hc1,hc2,a0,m,c,vs,rfl,⟨⟨g1.1.1,?_⟩,g1.2⟩,CXk.stay hst 1 _ _ g2,g3⟩
  rcases g1.1.2 with p1 | ⟨g0,cap,cur,p1,p2,p3,p4⟩
  · exact .inl p1
  · refine .inr ⟨g0,cap,cur,p1,p2,?_,p4⟩
    simp only [Value.slice.injEq] at p1
    rw [hblk g0 (Array.getElem?_eq_some_iff.1 p3).1 (g3 g0 p1.1).1]
    exact p3
theorem leaf_outs (hC:∀ b i,C b i→b<w.heap.size) (hO:OutW C w bo hdr outs) (hX:LeafX X C w bo hdr outs.length) {G:Gh} {s:AS} {a:Act} {w':World} (hr:RelG X G s a w'):CX G.C w' (.sl 1 (outs.map whQ)) [hdr]:=by
  have hblk:=leaf_blk hX hr
  obtain ⟨h1,h2,h3,h4,a0,m,c,vs,rfl,g1,g2,g3⟩:=hO
  have hst:Stay C G.C w w':=fun b i hc=>⟨hr.c0 b i ((hX.C0 b i).2 (.inl hc)),World.cell?_of_block (w:=w) (hblk b (hC b i hc) (fun e=>h2 i (e ▸ hc)))⟩
  obtain ⟨f1,f2,f3,f4,f5,f6⟩:=g1.flat
  have hlen:outs.length=m:=by
    have:=g2.len
    simp only [List.length_map,Nat.mul_one] at this f1
    omega
  refine ⟨a0,m,c,vs,rfl,by rw [List.length_map];exact hlen,CXk.stay hst 1 _ _ g2,f1,f2,f3,f6,f4,fun hn=>?_⟩
  obtain ⟨b,off,e1,_,hlt,e2⟩:=f5 hn
  obtain ⟨g0,q1,_,_⟩:=g1.head hn
  rw [q1] at e1
  simp only [Option.some.injEq,Addr.mk.injEq,and_true] at e1
  obtain ⟨rfl,rfl⟩:=e1
  refine ⟨g0,0,q1,fun i u hu=>⟨hr.c0 _ _ ((hX.C0 _ _).2 (.inr ⟨by rw [q1];rfl,?_⟩)),?_⟩⟩
  · have:=(List.getElem?_eq_some_iff.1 hu).1
    omega
  · rw [World.cell?_of_block (w:=w) (hblk g0 hlt (g3 g0 q1).1)]
    exact e2 i u hu
theorem lstep_outs (hC:∀ b i,C b i→b<w.heap.size) (hO:OutW C w bo hdr outs) (hX:LeafX X C w bo hdr outs.length) {N d:Nat} {o:Oper} {s:AS} {K:AS→Prop} {x:Operand} (ho:o.op=.load 27 x) (hd:o.dst=some d) (hp:ev N s x=.ptr 1000000 0) (hob:s.ob 1000000=some [.d (.hv hdr)]) (hK:K (s.put d (.d (.sl 1 (outs.map whQ))))):LStep (fun X'=>X'=X) N o s K:=by
  intro X' G a w' hN hP hr
  subst hP;subst hN
  have hx:=hr.ev x
  rw [hp] at hx
  have hx:a.eval x=.pointer (some ⟨G.ad 1000000,0,none⟩):=hx
  rw [leaf_ad hX hr hob] at hx
  obtain ⟨hc1,hc2⟩:=leaf_cell hX hr hob
  obtain ⟨i,hi⟩:∃ i,tyT 27=some i:=by
    have:(tyT 27).isSome=true:=by kernel_rfl
    exact Option.isSome_iff_exists.1 this
  have hsz:i.size=1∧i.agg=false:=by
    have:(tyT 27).map (fun i=>(i.size,i.agg))=some (1,false):=by kernel_rfl
    rw [hi] at this
    simpa using this
  obtain ⟨v,hl,hv⟩:=run_loadVar (tyT_ok _ _ hi) (w:=w') (b:=bo) (o:=0) (us:=[hdr]) (by rw [hsz.1];rfl) (fun j u hu=>by
    have hj:j=0:=by have:=(List.getElem?_eq_some_iff.1 hu).1;simp at this;exact this
    subst hj
    simp at hu
    subst hu
    exact hc1)
  rcases hv with ⟨hv,_⟩ | ⟨_,hv⟩
  · rw [hsz.2] at hv;cases hv
  · cases hv
    refine snd_val hr (x:=.d (.sl 1 (outs.map whQ))) (v:=hdr) ?_ (cvSl.2 (leaf_outs hC hO hX hr)) (by rw [hd];exact hK)
    simp only [execOp,ho,Instr.loadAt,hx,Instr.sureAddr,Sem.run_bind,Sem.run_pure,Result.andThen_ok,hl]
theorem rats_off {C:Nat→Nat→Prop} {w:World} {x:List RatD} {u:Value} {q:Nat} (h:CX C w (whQ x) [u]) (hq:∀ i v,C q i→w.cell? ⟨q,i,none⟩=some v→∀ z,v ≠ .int .i64 z):CX (fun b i=>C b i∧b ≠ q) w (whQ x) [u]:=by
  obtain ⟨a,n,c,vs,e,h2,h3,⟨g1,g2,g3,g4,g5,g6⟩,g7⟩:=h
  have hfl:=cxk_flat (rats_el x).1 h3
  have hint:=ints_cells (rats_el x).2 hfl
  have h3':CXk (fun b i=>C b i∧b ≠ q) w 2 (x.map ratDV) vs:=by
    clear hfl hint g1 g6 g5 h2
    induction x generalizing vs with
    | nil=>exact h3
    | cons y x ih =>
      obtain ⟨u1,v1,rfl,k1,k2,k3⟩:=h3
      exact ⟨u1,v1,rfl,k1,k2,ih v1 k3⟩
  have hbq:0<n→∃ b off,a=some ⟨b,off,none⟩∧b ≠ q∧∀ (i:Nat) (u:Value),vs[i]? = some u→C b (off+i)∧w.cell? ⟨b,off+i,none⟩=some u:=fun hn=>by
    obtain ⟨b,off,ha,hc⟩:=g6 hn
    refine ⟨b,off,ha,fun eb=>?_,hc⟩
    subst eb
    have h0:0<vs.length:=by rw [g1];omega
    obtain ⟨z,hz⟩:=hint vs[0] (List.getElem_mem h0)
    have hv:vs[0]? = some vs[0]:=List.getElem?_eq_getElem h0
    exact hq _ _ (hc 0 _ hv).1 (hc 0 _ hv).2 z hz
  refine ⟨a,n,c,vs,e,h2,h3',⟨g1,g2,g3,g4,g5,fun hn=>?_⟩,fun hn=>?_⟩
  · obtain ⟨b,off,ha,hb,hc⟩:=hbq hn
    exact ⟨b,off,ha,fun i v hv=>⟨⟨(hc i v hv).1,hb⟩,(hc i v hv).2⟩⟩
  · obtain ⟨b,off,ha,hb,hc⟩:=hbq hn
    obtain ⟨b',ha',N,ht⟩:=g7 hn
    rw [ha] at ha'
    simp only [Option.some.injEq,Addr.mk.injEq,and_true] at ha'
    obtain ⟨rfl,rfl⟩:=ha'
    exact ⟨b,ha,N,fun i hi=>⟨ht i hi,hb⟩⟩
theorem slices_only {C:Nat→Nat→Prop} {w:World}:∀ {l:List (List RatD)} {vs:List Value},CXk C w 1 (l.map whQ) vs→∀ v∈vs,∃ a n c,v=.slice a n c
  | [],vs,h,v,hv=>by obtain rfl:=h;cases hv
  | y :: l,vs,h,v,hv=>by
    obtain ⟨u,v',rfl,⟨a,n,c,xs,rfl,_⟩,_,h3⟩:=h
    rcases List.mem_append.1 hv with hv | hv
    · exact ⟨a,n,c,by simpa using hv⟩
    · exact slices_only h3 v hv
theorem leaf_last (hC:∀ b i,C b i→b<w.heap.size) (hO:OutW C w bo hdr outs) (hX:LeafX X C w bo hdr outs.length) (hlen:outs.length≤16777215) {G:Gh} {s:AS} {a:Act} {w3:World} (hr:RelG X G s a w3) {x:List RatD} {g:Nat} {T:TypeId} {v:Value} (hv:CV G w3 (.buf g T 1 [whQ x]) v) (hob:s.ob 1000000=some [.d (.hv hdr)]) :
    ∃ hdr' w4 w5 C',(Builtin.append_ #[27,27] 27 #[hdr,v]).run Try.prog w3=.ok hdr' w4∧(storeVar 27 ⟨bo,0,none⟩ hdr').run Try.prog w4=.ok () w5∧ChR C C' w w5 bo hdr hdr'∧OutW C' w5 bo hdr' (outs ++ [x]):=by
  have hblk:=leaf_blk hX hr
  obtain ⟨hc1,hc2⟩:=leaf_cell hX hr hob
  have hadb:=leaf_ad hX hr hob
  have hGbo:∀ i,¬ G.C bo i:=by rw [← hadb];exact (hr.ob _ _ hob).2.1
  have hown0:=hO.own
  have hsz:=leaf_size hX hr
  have hfr:=hr.fr
  rw [hX.w0] at hfr
  obtain ⟨hbo,hnoC,_,_,a0,m,c,vs,rfl,g1,g2,g3⟩:=hO
  have hml:vs.length=outs.length:=by have:=g2.len;simpa using this
  have hvm:vs.length=m:=by have:=g1.1.1;simpa using this
  have hown3:OwnF 29 1 0 w3 a0 m c vs:=by
    refine ⟨⟨g1.1.1,?_⟩,g1.2⟩
    rcases g1.1.2 with p1 | ⟨g0,cap,cur,p1,p2,p3,p4⟩
    · exact .inl p1
    · refine .inr ⟨g0,cap,cur,p1,p2,?_,p4⟩
      simp only [Value.slice.injEq] at p1
      rw [hblk g0 (Array.getElem?_eq_some_iff.1 p3).1 (g3 g0 p1.1).1]
      exact p3
  obtain ⟨ao,c1,us,rfl,k1,k2⟩:=cx_sl (wh_sl hv.2.2.2)
  obtain ⟨i,hi,he,hi1⟩:∃ i,tyT 29=some i∧(tyT 27).bind (·.kd)=some (.slice 29)∧i.size=1:=by
    have h1:(tyT 29).isSome=true:=by kernel_rfl
    have h2:(tyT 27).bind (·.kd)=some (.slice 29):=by kernel_rfl
    have h3:(tyT 29).map (·.size)=some 1:=by kernel_rfl
    obtain ⟨i,hi⟩:=Option.isSome_iff_exists.1 h1
    rw [hi] at h3
    exact ⟨i,hi,h2,by simpa using h3⟩
  obtain ⟨b0,hE⟩:=elemOf (tyT_ok.kd he) (tyT_ok _ _ hi) (by omega)
  rw [hi1] at hE
  have hFA:=k2.flat hr.cs (by decide)
  obtain ⟨a',c',w4,hrun,own4,gr4,bp,cp,fp⟩:=run_append_cells hE 27 0 a0 m c vs hown3 ao 1 c1 us hFA (by omega) (Nat.zero_le _)
  have hq4:∀ b,b<w3.heap.size→(Value.slice a0 m c).ownBlock ≠ some b→w4.heap[b]? = w3.heap[b]?:=fun b hb hne=>gr4.block b hb (fun e=>hne e.symm)
  have hbo3:bo<w3.heap.size:=Nat.lt_of_lt_of_le hbo hsz
  have hboown:(Value.slice a0 m c).ownBlock ≠ some bo:=fun e=>(hown0 bo e).1 rfl
  have hbo4:=hq4 bo hbo3 hboown
  have hc4:w4.cell? ⟨bo,0,none⟩=some (.slice a0 m c):=by rw [World.cell?_of_block (w:=w3) hbo4];exact hc1
  have hf4:w4.frozen? ⟨bo,0,none⟩=false:=by rw [World.frozen?_of_block (w:=w3) hbo4];exact hc2
  obtain ⟨j,hj,hj1⟩:∃ j,tyT 27=some j∧j.size=1:=by
    have h3:(tyT 27).map (·.size)=some 1:=by kernel_rfl
    cases h:tyT 27 with
    | none=>rw [h] at h3;cases h3
    | some j=>rw [h] at h3;exact ⟨j,rfl,by simpa using h3⟩
  have hst:=run_storeVar (tyT_ok _ _ hj) (w:=w4) (b:=bo) (o:=0) (v:=.slice a' (m+1) c') (by rw [hj1];rfl) (fun u hu=>by
    have:u=.slice a' (m+1) c':=by simpa [Value.cells] using hu
    rw [this];rfl) (fun q hq=>by
    obtain rfl:q=0:=by omega
    exact ⟨_,hc4⟩) (fun q hq=>by
    obtain rfl:q=0:=by omega
    exact hf4)
  have hcl:(Value.slice a' (m+1) c').cells.toList=[.slice a' (m+1) c']:=rfl
  rw [hcl] at hst
  obtain ⟨s1,s2,s3,s4,s5⟩:=setCells_facts [.slice a' (m+1) c'] w4 bo 0
  generalize hw5:World.setCells w4 bo 0 [.slice a' (m+1) c']=w5 at hst s1 s2 s3 s4 s5
  have hw5b:∀ b,b<w4.heap.size→b ≠ bo→w5.heap[b]? = w4.heap[b]?:=fun b hb hne=>s2.block b hb (fun e=>hne (Option.some.inj e))
  have hw53:∀ b,b<w3.heap.size→b ≠ bo→(Value.slice a0 m c).ownBlock ≠ some b→w5.heap[b]? = w3.heap[b]?:=fun b hb h1 h2=>(hw5b b (Nat.lt_of_lt_of_le hb gr4.size) h1).trans (hq4 b hb h2)
  have hsz5:w3.heap.size≤w5.heap.size:=by rw [s1];exact gr4.size
  have hownb:∀ b,(Value.slice a' (m+1) c').ownBlock=some b→a'=some ⟨b,0,none⟩:=fun b hb=>by
    rcases own4.1.2 with ⟨p1,_⟩ | ⟨g0,cap,cur,p1,_⟩
    · rw [p1] at hb;cases hb
    · simp only [Value.slice.injEq] at p1
      rw [p1.1] at hb ⊢
      simp only [Value.ownBlock,Option.some.injEq] at hb
      rw [hb]
  have hCC:∀ b i,C b i→G.C b i∧(Value.slice a0 m c).ownBlock ≠ some b:=fun b i hc=>⟨hr.c0 b i ((hX.C0 b i).2 (.inl hc)),fun e=>(hown0 b e).2.2 i hc⟩
  have hstay:Stay C (fun b i=>G.C b i∧(Value.slice a0 m c).ownBlock ≠ some b) w w5:=fun b i hc=>⟨hCC b i hc,by
    have h1:b ≠ bo:=fun e=>hnoC i (e ▸ hc)
    rw [World.cell?_of_block (w:=w3) (hw53 b (Nat.lt_of_lt_of_le (hC b i hc) hsz) h1 (hCC b i hc).2),World.cell?_of_block (w:=w) (hblk b (hC b i hc) h1)]⟩
  refine ⟨.slice a' (m+1) c',w4,w5,fun b i=>G.C b i∧(Value.slice a0 m c).ownBlock ≠ some b,hrun,hst,⟨s2.os.trans (gr4.os.trans hfr.os),s2.tape.trans (gr4.tape.trans hfr.tape),s2.output.trans (gr4.output.trans hfr.output),Nat.le_trans hsz hsz5,fun k hk h1 h2=>?_,fun b hb=>?_,hCC,fun b i hc=>Nat.lt_of_lt_of_le (hr.cs b i hc.1) hsz5,fun b i hc hb=>?_,fun b i hc hz=>?_⟩,⟨Nat.lt_of_lt_of_le hbo3 hsz5,fun i hc=>hGbo i hc.1,?_,?_,a',m+1,c',vs ++ us,rfl,?_,?_,fun b hb=>⟨?_,fun i hc=>?_⟩⟩⟩
  · rw [hw53 k (Nat.lt_of_lt_of_le hk hsz) h1 h2,hblk k hk h1]
  · rcases bp b (hownb b hb) with h1 | h1
    · exact .inr (Nat.le_trans hsz h1)
    · exact .inl h1.1
  · have h1:=hr.lc b i hc.1 (by rw [hX.w0];exact hb)
    rcases (hX.C0 b i).1 h1 with h2 | h2
    · exact h2
    · exact absurd h2.1 hc.2
  · have h1:b ≠ bo:=fun e=>hGbo i (e ▸ hc.1)
    rw [World.frozen?_of_block (w:=w3) (hw53 b (hr.cs b i hc.1) h1 hc.2)]
    exact hr.uf b i hc.1 (by rw [hX.w0];exact hz)
  · have:=s5 (fun i hi=>by
      obtain rfl:i=0:=by simpa using hi
      exact ⟨_,hc4⟩) 0 _ rfl
    exact this
  · rw [s4 0];exact hf4
  · refine ⟨⟨own4.1.1,?_⟩,own4.2⟩
    rcases own4.1.2 with p1 | ⟨g0,cap,cur,p1,p2,p3,p4⟩
    · exact .inl p1
    · refine .inr ⟨g0,cap,cur,p1,p2,?_,p4⟩
      simp only [Value.slice.injEq] at p1
      have hne:g0 ≠ bo:=fun e=>by
        rcases bp g0 p1.1 with h1 | h1
        · omega
        · exact (hown0 g0 h1.1).1 e
      rw [hw5b g0 (Array.getElem?_eq_some_iff.1 p3).1 hne]
      exact p3
  · rw [List.map_append]
    refine CXk.app ?_ (CXk.stay hstay 1 _ _ g2)
    obtain ⟨u1,v1,rfl,q1,q2,rfl⟩:=k1
    obtain ⟨u,rfl⟩:=List.length_eq_one_iff.1 q2
    refine ⟨[u],[],rfl,?_,rfl,rfl⟩
    cases ho:(Value.slice a0 m c).ownBlock with
    | none =>
      refine CX.stay (C:=G.C) (w:=w3) (fun b i hc=>⟨⟨hc,fun e=>(by cases e)⟩,?_⟩) _ _ q1
      exact World.cell?_of_block (w:=w3) (hw53 b (hr.cs b i hc) (fun e=>hGbo i (e ▸ hc)) (by rw [ho];exact fun e=>(by cases e)))
    | some q =>
      have hqf:=hown0 q ho
      have:=rats_off (q:=q) q1 (fun i v hc hcell z e=>by
        have h1:=hr.lc q i hc (by rw [hX.w0];exact hqf.2.1)
        rcases (hX.C0 q i).1 h1 with h2 | h2
        · exact hqf.2.2 i h2
        · rcases hown3.1.2 with ⟨p1,_⟩ | ⟨g0,cap,cur,p1,_⟩
          · rw [p1] at ho;cases ho
          · simp only [Value.slice.injEq] at p1
            have him:i<vs.length:=by rw [hml];exact h2.2
            obtain ⟨e0,_,_⟩:=p1
            subst e0
            have hq0:g0=q:=by simpa [Value.ownBlock] using ho
            have h5:=hown3.1.cells (g:=g0) rfl i vs[i] (by simp [him])
            rw [Addr.add_lit,hq0,Nat.zero_add] at h5
            rw [hcell] at h5
            obtain ⟨a9,n9,c9,e9⟩:=slices_only g2 vs[i] (List.getElem_mem him)
            rw [e9,e] at h5
            cases h5)
      refine CX.stay (C:=fun b i=>G.C b i∧b ≠ q) (w:=w3) (fun b i hc=>⟨⟨hc.1,fun e=>hc.2 (Option.some.inj e).symm⟩,?_⟩) _ _ this
      exact World.cell?_of_block (w:=w3) (hw53 b (hr.cs b i hc.1) (fun e=>hGbo i (e ▸ hc.1)) (by rw [ho];exact fun e=>hc.2 (Option.some.inj e).symm))
  · intro e
    rcases bp b hb with h1 | h1
    · omega
    · exact (hown0 b h1.1).1 e
  · rcases bp b hb with h1 | h1
    · have:=hr.cs b i hc.1
      omega
    · exact hc.2 h1.1
end
def leafS (A:List (List RatD)) (B Cc:List RatD) (rows:List (List RatD)) (right:List RatD) (sg:Int) (n:Nat) (fv hdr:Value) (from_:Int) (ch:List Nat):AS :=
  mkS [(0,.d (.int from_)),(1,.d (chD ch)),(2,.loc [.int (n:Nat)]),(3,.loc [matD rows]),(4,.loc [.hv fv]),(5,.loc [ratsD right]),(6,.loc [matD A,ratsD B,ratsD Cc]),(7,.loc [.int sg]),(8,.ptr 1000000 0)] [(1000000,[.d (.hv hdr)])]
set_option maxHeartbeats 4000000 in
theorem leaf_cw {A:List (List RatD)} {B Cc:List RatD} {rows:List (List RatD)} {right:List RatD} {sg:Int} {n:Nat} {fv hdr:Value} {from_:Int} {ch:List Nat} {X:Cx} {C:Nat→Nat→Prop} {w:World} {bo:Nat} {outs:List (List RatD)} {R:Ending→World→Prop}
    (hR:RowsOK A B Cc rows right n) (hsg:sg=1∨sg = -1) (hl:ch.length=n) (hch:∀ k∈ch,k<rows.length) (hob:outs.length≤16777215) (hol2:∀ y∈outs,y.length≤1048576) (hC:∀ b i,C b i→b<w.heap.size) (hO:OutW C w bo hdr outs) (hX:LeafX X C w bo hdr outs.length) (hN:X.N=90)
    (hstop:∀ a w',a.defers=[]→ChR C C w w' bo hdr hdr→OutW C w' bo hdr outs→leafF A B Cc rows right sg ch outs=outs→bodyPost Try.prog Try.f45 R .ret a w')
    (hend:∀ x:List RatD,leafF A B Cc rows right sg ch outs=outs ++ [x]→∀ a w',a.defers=[]→∀ C' hdr',ChR C C' w w' bo hdr hdr'→OutW C' w' bo hdr' (outs ++ [x])→bodyPost Try.prog Try.f45 R .normal a w') :
    ∃ c,Try.f45.body=some c∧CW X (bodyPost Try.prog Try.f45 R) c (leafS A B Cc rows right sg n fv hdr from_ ch):=by
  refine ⟨_,rfl,?_⟩
  have hsys:=hR.sys hl hch
  obtain ⟨_,hn5,hlp,hcl,hT,hbl,_,_,_⟩:=hR
  have hchl:(ch.map fun k:Nat=>DV.int k).length=n:=by rw [List.length_map];exact hl
  have zn:decide ((n:Int)<(n:Nat))=false:=decide_eq_false (by omega)
  obtain ⟨_,hB5,hmo,_,_⟩:=lpV_out hlp
  obtain ⟨hAB,hmo2⟩:=matOK_out hmo
  unfold leafS
  refine cw_seq hN ?_
  repeat' (first | refine awp_seq ?_ | refine stp ?_ | refine blk_o (by decide) ?_ | (apply awp_condB;(focus (simp (disch:=(first | omega | (simp;omega))) only [go_sem,w64,chD,hchl,zn];try exact rfl));first | with_reducible refine condOf_t ?_ | with_reducible refine condOf_f ?_) | (refine awp_region' tyT_ok ?_;intro K hK) | (refine awp_drawA ?_;intro K hK) | (with_reducible refine hK _ ?_;clear hK K) | (refine stq ?_;simp (disch:=(first | omega | (simp;omega))) only [go_sem,w64,chD,hchl,zn]) | refine and_side ?_ | fail)
  refine cw_weak (s':=mkS [(1,.d (chD ch)),(2,.loc [.int (n:Nat)]),(3,.loc [matD rows]),(4,.loc [.hv fv]),(5,.loc [ratsD right]),(6,.loc [matD A,ratsD B,ratsD Cc]),(7,.loc [.int sg]),(8,.ptr 1000000 0)] [(1000000,[.d (.hv hdr)])]) (by (refine sle_mk ?_ ?_ <;> simp (disch:=(first | omega | (simp;omega))) only [go_sem,w64,chD] <;> exact leafs)) ?_
  refine cw_seq hN ?_
  repeat' (first | refine awp_seq ?_ | refine stp ?_ | refine blk_o (by decide) ?_ | (apply awp_condB;(focus (simp (disch:=(first | omega | (simp;omega))) only [go_sem,w64];try exact rfl));first | with_reducible refine condOf_t ?_ | with_reducible refine condOf_f ?_) | (refine awp_region' tyT_ok ?_;intro K hK) | (refine awp_drawA ?_;intro K hK) | (with_reducible refine hK _ ?_;clear hK K) | (refine stq ?_;simp (disch:=(first | omega | (simp;omega))) only [go_sem,w64]) | refine and_side ?_ | fail)
  refine cw_seq hN ?_
  repeat' (first | refine awp_seq ?_ | refine stp ?_ | refine blk_o (by decide) ?_ | (apply awp_condB;(focus (simp (disch:=(first | omega | (simp;omega))) only [go_sem,w64];try exact rfl));first | with_reducible refine condOf_t ?_ | with_reducible refine condOf_f ?_) | (refine awp_region' tyT_ok ?_;intro K hK) | (refine awp_drawA ?_;intro K hK) | (with_reducible refine hK _ ?_;clear hK K) | (refine stq ?_;simp (disch:=(first | omega | (simp;omega))) only [go_sem,w64]) | refine and_side ?_ | fail)
  refine cw_seq hN ?_
  refine awp_nilbuf 12 12 29 1 (by simp (disch:=(first | omega | (simp;omega))) only [go_sem,w64]) ?_
  refine awp_nilbuf 13 13 39 2 (by simp (disch:=(first | omega | (simp;omega))) only [go_sem,w64]) ?_
  obtain ⟨M,hM⟩:∃ M,M=ch.map (mx rows ·):=⟨_,rfl⟩
  obtain ⟨b,hb⟩:∃ b,b=ch.map (qx right ·):=⟨_,rfl⟩
  have hMl:M.length=n:=by rw [hM,List.length_map];exact hl
  have hbl2:b.length=n:=by rw [hb,List.length_map];exact hl
  have hMk:∀ j,j<n→mx M j=mx rows (ch.getD j 0)∧qx b j=qx right (ch.getD j 0)∧ch.getD j 0<rows.length:=fun j hj=>by
    have hj2:j<ch.length:=by omega
    refine ⟨by simp [hM,mx,List.getD,hj2],by simp [hb,qx,List.getD,hj2],hch _ (getD_mem hj2)⟩
  repeat' (first | refine awp_seq ?_ | refine stp ?_ | refine blk_o (by decide) ?_ | (apply awp_condB;(focus (simp (disch:=(first | omega | (simp;omega))) only [go_sem,w64,chD,hchl];try exact rfl));first | with_reducible refine condOf_t ?_ | with_reducible refine condOf_f ?_) | (refine awp_region' tyT_ok ?_;intro K hK) | (refine awp_drawA ?_;intro K hK) | (with_reducible refine hK _ ?_;clear hK K) | (refine stq ?_;simp (disch:=(first | omega | (simp;omega))) only [go_sem,w64,chD,hchl]) | refine and_side ?_ | fail)
  refine awp_loopw (fun mm s=>∃ j:Nat,mm=n - j∧j≤n∧s=mkS [(12,.buf 12 29 1 ((M.take j).map ratsD)),(13,.buf 13 39 2 ((b.take j).map ratDV)),(40,.d (chD ch)),(41,.d (.int (n:Nat))),(42,.d (.int (j:Nat))),(2,.loc [.int (n:Nat)]),(3,.loc [matD rows]),(4,.loc [.hv fv]),(5,.loc [ratsD right]),(6,.loc [matD A,ratsD B,ratsD Cc]),(7,.loc [.int sg]),(8,.ptr 1000000 0)] [(1000000,[.d (.hv hdr)])]) ?_ ?_
  · refine ⟨_,_,?_,0,rfl,Nat.zero_le _,rfl⟩
    (refine sle_mk ?_ ?_ <;> simp (disch:=(first | omega | (simp;omega))) only [go_sem,w64,chD,hchl,List.take_zero,List.map_nil] <;> exact leafs)
  · rintro mm s ⟨j,rfl,hj,rfl⟩
    have zj:IntKind.i64.wrap ((j:Int)+1)=((j+1:Nat):Int):=by rw [w64 (by omega)];rfl
    by_cases hjn:j<n
    · obtain ⟨k1,k2,k3⟩:=hMk j hjn
      have z1:decide ((j:Int)<(n:Nat))=true:=decide_eq_true (by omega)
      have g0:(ch.map fun k:Nat=>DV.int k).getD j (.bool false)=.int ((ch.getD j 0:Nat):Int):=by
        have hj2:j<ch.length:=by omega
        simp [List.getD,hj2]
      generalize hq:ch.getD j 0=q at *
      have g1:(rows.map ratsD).getD q (.bool false)=ratsD (mx rows q):=getDm k3
      have g2:(right.map ratDV).getD q (.bool false)=ratDV (qx right q):=getDq (by omega)
      have hrl2:(rows.map ratsD).length=rows.length:=List.length_map ..
      have hbl3:(right.map ratDV).length=rows.length:=by rw [List.length_map];exact hbl
      have e1:M.take (j+1)=M.take j ++ [mx rows q]:=by
        have h2:j<M.length:=by omega
        rw [List.take_add_one,List.getElem?_eq_getElem h2,← k1,mx_lt h2];rfl
      have e2:b.take (j+1)=b.take j ++ [qx right q]:=by
        have h2:j<b.length:=by omega
        rw [List.take_add_one,List.getElem?_eq_getElem h2,← k2,qx_lt h2];rfl
      have hb1:(M.take j).length=j:=by rw [List.length_take];omega
      have hb2:(b.take j).length=j:=by rw [List.length_take];omega
      repeat' (first | refine awp_seq ?_ | refine stp ?_ | refine blk_o (by decide) ?_ | (apply awp_condB;(focus (simp (disch:=(first | omega | (simp;omega))) only [go_sem,w64,chD,hchl,z1,g0,matD,ratsD,g1,g2,hrl2,hbl3,ratDV,hb1,hb2];try exact rfl));first | with_reducible refine condOf_t ?_ | with_reducible refine condOf_f ?_) | (refine awp_region' tyT_ok ?_;intro K hK) | (refine awp_drawA ?_;intro K hK) | (with_reducible refine hK _ ?_;clear hK K) | (refine stq ?_;simp (disch:=(first | omega | (simp;omega))) only [go_sem,w64,chD,hchl,z1,g0,matD,ratsD,g1,g2,hrl2,hbl3,ratDV,hb1,hb2]) | refine and_side ?_ | fail)
      refine ⟨n - (j+1),_,by omega,?_,j+1,rfl,by omega,rfl⟩
      rw [e1,e2]
      (refine sle_mk ?_ ?_ <;> simp (disch:=(first | omega | (simp;omega))) only [go_sem,w64,chD,hchl,List.map_append,List.map_cons,List.map_nil,ratDV] <;> exact leafs)
    · obtain rfl:n=j:=by omega
      have z1:decide ((n:Int)<(n:Nat))=false:=decide_eq_false (by omega)
      rw [List.take_of_length_le (by omega),List.take_of_length_le (by omega)]
      repeat' (first | refine awp_seq ?_ | refine stp ?_ | refine blk_o (by decide) ?_ | (apply awp_condB;(focus (simp (disch:=(first | omega | (simp;omega))) only [go_sem,w64,z1];try exact rfl));first | with_reducible refine condOf_t ?_ | with_reducible refine condOf_f ?_) | (refine awp_region' tyT_ok ?_;intro K hK) | (refine awp_drawA ?_;intro K hK) | (with_reducible refine hK _ ?_;clear hK K) | (refine stq ?_;simp (disch:=(first | omega | (simp;omega))) only [go_sem,w64,z1]) | refine and_side ?_ | fail)
      refine cw_weak (s':=mkS [(12,.buf 12 29 1 (M.map ratsD)),(13,.buf 13 39 2 (b.map ratDV)),(2,.loc [.int (n:Nat)]),(3,.loc [matD rows]),(4,.loc [.hv fv]),(5,.loc [ratsD right]),(6,.loc [matD A,ratsD B,ratsD Cc]),(7,.loc [.int sg]),(8,.ptr 1000000 0)] [(1000000,[.d (.hv hdr)])]) (by (refine sle_mk ?_ ?_ <;> simp (disch:=(first | omega | (simp;omega))) only [go_sem,w64,chD] <;> exact leafs)) ?_
      refine cw_seq hN ?_
      rw [← hM,← hb] at hsys
      repeat' (first | refine awp_seq ?_ | refine stp ?_ | refine blk_o (by decide) ?_ | (apply awp_condB;(focus (simp (disch:=(first | omega | (simp;omega))) only [go_sem,w64];try exact rfl));first | with_reducible refine condOf_t ?_ | with_reducible refine condOf_f ?_) | (refine awp_region' tyT_ok ?_;intro K hK) | (refine awp_drawA ?_;intro K hK) | (with_reducible refine hK _ ?_;clear hK K) | (refine stq ?_;simp (disch:=(first | omega | (simp;omega))) only [go_sem,w64]) | refine and_side ?_ | fail)
      (first | refine callA (implSolveA M b n hsys) ?_ | refine callD (implSolveA M b n hsys) ?_ | refine callE (implSolveA M b n hsys) ?_ | refine callF (implSolveA M b n hsys) ?_ ?_)
      have hlf:leafF A B Cc rows right sg ch outs=match solF M b with
        | none=>outs
        | some x=>if feasF A B Cc x sg=true then (if outs.any (fun y=>eqQ x y)=true then outs else outs ++ [x]) else outs:=by unfold leafF;rw [← hM,← hb];rfl
      cases hso:solF M b with
      | none =>
        rw [hso] at hlf
        repeat' (first | refine awp_seq ?_ | refine stp ?_ | refine blk_o (by decide) ?_ | (apply awp_condB;(focus (simp (disch:=(first | omega | (simp;omega))) only [go_sem,w64,ansW];try exact rfl));first | with_reducible refine condOf_t ?_ | with_reducible refine condOf_f ?_) | (refine awp_region' tyT_ok ?_;intro K hK) | (refine awp_drawA ?_;intro K hK) | (with_reducible refine hK _ ?_;clear hK K) | (refine stq ?_;simp (disch:=(first | omega | (simp;omega))) only [go_sem,w64,ansW]) | refine and_side ?_ | fail)
        refine cw_seq hN ?_
        repeat' (first | refine awp_seq ?_ | refine stp ?_ | refine blk_o (by decide) ?_ | (apply awp_condB;(focus (simp (disch:=(first | omega | (simp;omega))) only [go_sem,w64];try exact rfl));first | with_reducible refine condOf_t ?_ | with_reducible refine condOf_f ?_) | (refine awp_region' tyT_ok ?_;intro K hK) | (refine awp_drawA ?_;intro K hK) | (with_reducible refine hK _ ?_;clear hK K) | (refine stq ?_;simp (disch:=(first | omega | (simp;omega))) only [go_sem,w64]) | refine and_side ?_ | fail)
        refine cwq_ret fun a w' hr=>?_
        obtain ⟨q1,q2,q3⟩:=leaf_same hC hO hX hr (by simp (disch:=(first | omega | (simp;omega))) only [go_sem,w64])
        exact hstop a w' q1 q2 q3 hlf
      | some x =>
        rw [hso] at hlf
        replace hlf:leafF A B Cc rows right sg ch outs=if feasF A B Cc x sg=true then (if outs.any (fun y=>eqQ x y)=true then outs else outs ++ [x]) else outs:=hlf
        have hxl:x.length=n:=by
          unfold solF at hso
          split at hso
          · cases hso
          · rw [outTo_len hso];exact hbl2
        repeat' (first | refine awp_seq ?_ | refine stp ?_ | refine blk_o (by decide) ?_ | (apply awp_condB;(focus (simp (disch:=(first | omega | (simp;omega))) only [go_sem,w64,ansW];try exact rfl));first | with_reducible refine condOf_t ?_ | with_reducible refine condOf_f ?_) | (refine awp_region' tyT_ok ?_;intro K hK) | (refine awp_drawA ?_;intro K hK) | (with_reducible refine hK _ ?_;clear hK K) | (refine stq ?_;simp (disch:=(first | omega | (simp;omega))) only [go_sem,w64,ansW]) | refine and_side ?_ | fail)
        refine cw_seq hN ?_
        repeat' (first | refine awp_seq ?_ | refine stp ?_ | refine blk_o (by decide) ?_ | (apply awp_condB;(focus (simp (disch:=(first | omega | (simp;omega))) only [go_sem,w64];try exact rfl));first | with_reducible refine condOf_t ?_ | with_reducible refine condOf_f ?_) | (refine awp_region' tyT_ok ?_;intro K hK) | (refine awp_drawA ?_;intro K hK) | (with_reducible refine hK _ ?_;clear hK K) | (refine stq ?_;simp (disch:=(first | omega | (simp;omega))) only [go_sem,w64]) | refine and_side ?_ | fail)
        (first | refine callA (implFeasA A B Cc x sg (by omega) (fun i hi=>by have:=(hmo2 i hi).1;omega) (by omega) (by omega) (by omega) hsg) ?_ | refine callD (implFeasA A B Cc x sg (by omega) (fun i hi=>by have:=(hmo2 i hi).1;omega) (by omega) (by omega) (by omega) hsg) ?_ | refine callE (implFeasA A B Cc x sg (by omega) (fun i hi=>by have:=(hmo2 i hi).1;omega) (by omega) (by omega) (by omega) hsg) ?_ | refine callF (implFeasA A B Cc x sg (by omega) (fun i hi=>by have:=(hmo2 i hi).1;omega) (by omega) (by omega) (by omega) hsg) ?_ ?_)
        cases hfe:feasF A B Cc x sg with
        | false =>
          rw [hfe,if_neg (by decide)] at hlf
          repeat' (first | refine awp_seq ?_ | refine stp ?_ | refine blk_o (by decide) ?_ | (apply awp_condB;(focus (simp (disch:=(first | omega | (simp;omega))) only [go_sem,w64];try exact rfl));first | with_reducible refine condOf_t ?_ | with_reducible refine condOf_f ?_) | (refine awp_region' tyT_ok ?_;intro K hK) | (refine awp_drawA ?_;intro K hK) | (with_reducible refine hK _ ?_;clear hK K) | (refine stq ?_;simp (disch:=(first | omega | (simp;omega))) only [go_sem,w64]) | refine and_side ?_ | fail)
          refine cwq_ret fun a w' hr=>?_
          obtain ⟨q1,q2,q3⟩:=leaf_same hC hO hX hr (by simp (disch:=(first | omega | (simp;omega))) only [go_sem,w64])
          exact hstop a w' q1 q2 q3 hlf
        | true =>
          rw [hfe,if_pos rfl] at hlf
          repeat' (first | refine awp_seq ?_ | refine stp ?_ | refine blk_o (by decide) ?_ | (apply awp_condB;(focus (simp (disch:=(first | omega | (simp;omega))) only [go_sem,w64];try exact rfl));first | with_reducible refine condOf_t ?_ | with_reducible refine condOf_f ?_) | (refine awp_region' tyT_ok ?_;intro K hK) | (refine awp_drawA ?_;intro K hK) | (with_reducible refine hK _ ?_;clear hK K) | (refine stq ?_;simp (disch:=(first | omega | (simp;omega))) only [go_sem,w64]) | refine and_side ?_ | fail)
          refine cw_weak (s':=mkS [(16,.d (whQ x)),(2,.loc [.int (n:Nat)]),(3,.loc [matD rows]),(4,.loc [.hv fv]),(5,.loc [ratsD right]),(6,.loc [matD A,ratsD B,ratsD Cc]),(7,.loc [.int sg]),(8,.ptr 1000000 0)] [(1000000,[.d (.hv hdr)])]) (by (refine sle_mk ?_ ?_ <;> simp (disch:=(first | omega | (simp;omega))) only [go_sem,w64,chD] <;> exact leafs)) ?_
          refine cw_seq hN ?_
          repeat' (first | refine awp_seq ?_ | refine stp ?_ | refine blk_o (by decide) ?_ | (apply awp_condB;(focus (simp (disch:=(first | omega | (simp;omega))) only [go_sem,w64];try exact rfl));first | with_reducible refine condOf_t ?_ | with_reducible refine condOf_f ?_) | (with_reducible refine hK _ ?_;clear hK K) | (refine stq ?_;simp (disch:=(first | omega | (simp;omega))) only [go_sem,w64]) | refine and_side ?_ | fail)
          refine awp_regionX tyT_ok 0 rfl rfl ?_
          intro K hK
          simp only [List.take_zero,List.drop_succ_cons,List.drop_zero]
          rw [aops_nil]
          refine lstep_outs hC hO hX (d:=76) rfl rfl (by simp (disch:=(first | omega | (simp;omega))) only [go_sem,w64]) (by simp (disch:=(first | omega | (simp;omega))) only [go_sem,w64]) ?_
          have hol:(outs.map whQ).length=outs.length:=List.length_map ..
          repeat' (first | refine awp_seq ?_ | refine stp ?_ | refine blk_o (by decide) ?_ | (apply awp_condB;(focus (simp (disch:=(first | omega | (simp;omega))) only [go_sem,w64,hol];try exact rfl));first | with_reducible refine condOf_t ?_ | with_reducible refine condOf_f ?_) | (refine awp_region' tyT_ok ?_;intro K hK) | (refine awp_drawA ?_;intro K hK) | (with_reducible refine hK _ ?_;clear hK K) | (refine stq ?_;simp (disch:=(first | omega | (simp;omega))) only [go_sem,w64,hol]) | refine and_side ?_ | fail)
          refine awp_loopw (fun mm s=>∃ j:Nat,mm=outs.length - j∧j≤outs.length∧(∀ i,i<j→eqQ x (mx outs i)=false)∧s=mkS [(16,.d (whQ x)),(76,.d (.sl 1 (outs.map whQ))),(77,.d (.int (outs.length:Nat))),(78,.d (.int (j:Nat))),(2,.loc [.int (n:Nat)]),(3,.loc [matD rows]),(4,.loc [.hv fv]),(5,.loc [ratsD right]),(6,.loc [matD A,ratsD B,ratsD Cc]),(7,.loc [.int sg]),(8,.ptr 1000000 0)] [(1000000,[.d (.hv hdr)])]) ?_ ?_
          · refine ⟨_,_,?_,0,rfl,Nat.zero_le _,fun i hi=>absurd hi (Nat.not_lt_zero _),rfl⟩
            (refine sle_mk ?_ ?_ <;> simp (disch:=(first | omega | (simp;omega))) only [go_sem,w64,hol] <;> exact leafs)
          · rintro mm s ⟨j,rfl,hj,hne,rfl⟩
            have zj:IntKind.i64.wrap ((j:Int)+1)=((j+1:Nat):Int):=by rw [w64 (by omega)];rfl
            by_cases hjn:j<outs.length
            · have z1:decide ((j:Int)<(outs.length:Nat))=true:=decide_eq_true (by omega)
              have g0:(outs.map whQ).getD j (.bool false)=whQ (mx outs j):=getDV hjn
              have hlen:(mx outs j).length≤1048576:=hol2 _ (by rw [mx_lt hjn];exact List.getElem_mem _)
              repeat' (first | refine awp_seq ?_ | refine stp ?_ | refine blk_o (by decide) ?_ | (apply awp_condB;(focus (simp (disch:=(first | omega | (simp;omega))) only [go_sem,w64,z1,hol,g0];try exact rfl));first | with_reducible refine condOf_t ?_ | with_reducible refine condOf_f ?_) | (refine awp_region' tyT_ok ?_;intro K hK) | (refine awp_drawA ?_;intro K hK) | (with_reducible refine hK _ ?_;clear hK K) | (refine stq ?_;simp (disch:=(first | omega | (simp;omega))) only [go_sem,w64,z1,hol,g0]) | refine and_side ?_ | fail)
              (first | refine callA (implEqA x (mx outs j) (by omega) hlen) ?_ | refine callD (implEqA x (mx outs j) (by omega) hlen) ?_ | refine callE (implEqA x (mx outs j) (by omega) hlen) ?_ | refine callF (implEqA x (mx outs j) (by omega) hlen) ?_ ?_)
              cases he:eqQ x (mx outs j) with
              | true =>
                repeat' (first | refine awp_seq ?_ | refine stp ?_ | refine blk_o (by decide) ?_ | (apply awp_condB;(focus (simp (disch:=(first | omega | (simp;omega))) only [go_sem,w64];try exact rfl));first | with_reducible refine condOf_t ?_ | with_reducible refine condOf_f ?_) | (refine awp_region' tyT_ok ?_;intro K hK) | (refine awp_drawA ?_;intro K hK) | (with_reducible refine hK _ ?_;clear hK K) | (refine stq ?_;simp (disch:=(first | omega | (simp;omega))) only [go_sem,w64]) | refine and_side ?_ | fail)
                refine cwq_ret fun a w' hr=>?_
                obtain ⟨q1,q2,q3⟩:=leaf_same hC hO hX hr (by simp (disch:=(first | omega | (simp;omega))) only [go_sem,w64])
                refine hstop a w' q1 q2 q3 ?_
                rw [hlf,if_pos]
                rw [List.any_eq_true]
                exact ⟨_,by rw [mx_lt hjn];exact List.getElem_mem _,he⟩
              | false =>
                repeat' (first | refine awp_seq ?_ | refine stp ?_ | refine blk_o (by decide) ?_ | (apply awp_condB;(focus (simp (disch:=(first | omega | (simp;omega))) only [go_sem,w64];try exact rfl));first | with_reducible refine condOf_t ?_ | with_reducible refine condOf_f ?_) | (refine awp_region' tyT_ok ?_;intro K hK) | (refine awp_drawA ?_;intro K hK) | (with_reducible refine hK _ ?_;clear hK K) | (refine stq ?_;simp (disch:=(first | omega | (simp;omega))) only [go_sem,w64]) | refine and_side ?_ | fail)
                refine ⟨outs.length - (j+1),_,by omega,?_,j+1,rfl,by omega,fun i hi=>?_,rfl⟩
                · (refine sle_mk ?_ ?_ <;> simp (disch:=(first | omega | (simp;omega))) only [go_sem,w64,hol] <;> exact leafs)
                · by_cases e:i=j
                  · rw [e];exact he
                  · exact hne i (by omega)
            · obtain rfl:j=outs.length:=by omega
              have z1:decide ((outs.length:Int)<(outs.length:Nat))=false:=decide_eq_false (by omega)
              repeat' (first | refine awp_seq ?_ | refine stp ?_ | refine blk_o (by decide) ?_ | (apply awp_condB;(focus (simp (disch:=(first | omega | (simp;omega))) only [go_sem,w64,z1];try exact rfl));first | with_reducible refine condOf_t ?_ | with_reducible refine condOf_f ?_) | (refine awp_region' tyT_ok ?_;intro K hK) | (refine awp_drawA ?_;intro K hK) | (with_reducible refine hK _ ?_;clear hK K) | (refine stq ?_;simp (disch:=(first | omega | (simp;omega))) only [go_sem,w64,z1]) | refine and_side ?_ | fail)
              rw [if_neg (by
                rw [List.any_eq_true]
                rintro ⟨y,hy,hy2⟩
                obtain ⟨i,hi,rfl⟩:=List.mem_iff_getElem.1 hy
                have:=hne i hi
                rw [mx_lt hi,hy2] at this
                cases this)] at hlf
              refine cw_weak (s':=mkS [(16,.d (whQ x)),(8,.ptr 1000000 0)] [(1000000,[.d (.hv hdr)])]) (by exact sleA) ?_
              refine cw_region tyT_ok hN 3 ?_
              intro K hK
              simp only [List.take_succ_cons,List.take_zero,List.drop_succ_cons,List.drop_zero]
              repeat' (first | refine awp_seq ?_ | refine stp ?_ | refine blk_o (by decide) ?_ | (apply awp_condB;(focus (simp (disch:=(first | omega | (simp;omega))) only [go_sem,w64];try exact rfl));first | with_reducible refine condOf_t ?_ | with_reducible refine condOf_f ?_) | (refine awp_region' tyT_ok ?_;intro K hK) | (refine awp_drawA ?_;intro K hK) | (with_reducible refine hK _ ?_;clear hK K) | (refine stq ?_;simp (disch:=(first | omega | (simp;omega))) only [go_sem,w64]) | refine and_side ?_ | fail)
              intro a w3 hr
              replace hr:=hr.weak (s':=mkS [(8,.ptr 1000000 0),(86,.d (.hv hdr)),(88,.buf 88 29 1 [whQ x])] [(1000000,[.d (.hv hdr)])]) (by exact sleA)
              obtain ⟨G3,hr3⟩:=hr
              have h8:a.tmps.getD 8 undef=.pointer (some ⟨G3.ad 1000000,0,none⟩):=hr3.tm 8 (by rw [hN];decide)
              have h86:a.tmps.getD 86 undef=hdr:=by
                have h:CV G3 w3 (.d (.hv hdr)) (a.tmps.getD 86 undef):=hr3.tm 86 (by rw [hN];decide)
                obtain ⟨zs,⟨hz,_⟩,h2⟩:=h
                rcases h2 with ⟨⟨m,e⟩,_⟩ | ⟨_,h2⟩
                · cases e
                · rw [hz] at h2;cases h2;rfl
              have h88:CV G3 w3 (.buf 88 29 1 [whQ x]) (a.tmps.getD 88 undef):=hr3.tm 88 (by rw [hN];decide)
              have hobb:(mkS [(8,.ptr 1000000 0),(86,.d (.hv hdr)),(88,.buf 88 29 1 [whQ x])] [(1000000,[.d (.hv hdr)])]).ob 1000000=some [.d (.hv hdr)]:=rfl
              rw [leaf_ad hX hr3 hobb] at h8
              obtain ⟨hdr',w4,w5,C',r1,r2,r3,r4⟩:=leaf_last hC hO hX hob hr3 h88 hobb
              have hn89:89<a.tmps.size:=by rw [hr3.n,hN];decide
              have e8:(a.put (some 89) hdr').eval (.tmp 8)=.pointer (some ⟨bo,0,none⟩):=by rw [Act.eval_put (fun d hd h=>by cases hd;cases h)];exact h8
              have e89:(a.put (some 89) hdr').eval (.tmp 89)=hdr':=by simp [Act.eval,Act.put,Array.getD_eq_getD_getElem?,hn89]
              have e86:a.eval (.tmp 86)=hdr:=h86
              have e88:a.eval (.tmp 88)=a.tmps.getD 88 undef:=rfl
              simp only [List.drop_succ_cons,List.drop_zero]
              unfold wpList
              rw [if_pos (by simp [Region.wanted])]
              left
              unfold Oper.wp
              simp only [execOp,resolve,invoke,builtin,List.map_toArray,List.map_cons,List.map_nil,e86,e88,Sem.run_bind,Sem.run_map,r1,Result.andThen_ok,Sem.run_pure,Oper.upon]
              unfold wpList
              rw [if_pos (by simp [Region.wanted])]
              left
              unfold Oper.wp
              simp only [execOp,e8,e89,Instr.storeAt,Instr.sureAddr,Sem.run_bind,Sem.run_map,r2,Result.andThen_ok,Sem.run_pure,Oper.upon]
              unfold wpList
              exact hend x hlf _ w5 hr3.df C' hdr' r3 r4
section
variable {P:Program} {ops:Array Oper} {Q:Exit→Act→World→Prop}
def KeptL (l:List Oper) (a a':Act):Prop:=∀ t,(∀ o∈l,o.dst ≠ some t)→a'.tmps.getD t undef=a.tmps.getD t undef
theorem oper_keep {o:Oper} {nx nx':Act→World→Prop} {Q':Exit→Act→World→Prop} {a:Act} {w:World} (h:o.wp P a w nx Q) (hn:∀ a1 w1,nx a1 w1→KeepD o.dst a a1→nx' a1 w1) (hp:∀ c a w,Q (.panic c) a w→Q' (.panic c) a w) (ho:LetsOut Q→LetsOut Q'):o.wp P a w nx' Q':=by
  unfold Oper.wp at h ⊢
  cases hr:(execOp a.eval o).run P w with
  | ok n w' =>
    rw [hr] at h
    cases n with
    | value v=>exact hn _ _ h (keepD_put _ _ _)
    | skip=>exact hn _ _ h (keepD_put _ _ _)
    | defer d=>exact hn _ _ h (keepD_df _ _ _ _)
    | enter f args =>
      refine Calls.mono h ?_
      intro e w'' hh
      cases e with
      | returned v=>exact hn _ _ hh (keepD_put _ _ _)
      | panicked c=>exact hp _ _ _ hh
      | outgrown=>exact ho hh
    | row r args=>exact Rows.mono h fun v w'' hh=>hn _ _ hh (keepD_put _ _ _)
    | _=>exact h
  | halt s w' =>
    rw [hr] at h
    cases s with
    | panic v=>exact hp _ _ _ h
    | _=>exact h
def QK (Q:Exit→Act→World→Prop) (l:List Oper) (a:Act):Exit→Act→World→Prop:=fun e a' w'=>Q e a' w'∧(e=.normal→KeptL l a a')
theorem wpList_keep:∀ (l:List Oper) (a:Act) (w:World),wpList P ops Q l a w→∀ (l0:List Oper) (a0:Act),KeptL l0 a0 a→(∀ o∈l,o∈l0)→wpList P ops (QK Q l0 a0) l a w
  | [],a,w,h,l0,a0,hk,_=>⟨h,fun _=>hk⟩
  | o :: l,a,w,h,l0,a0,hk,hl=>by
    have hlo:LetsOut Q→LetsOut (QK Q l0 a0):=fun ⟨a,w,h⟩=>⟨a,w,h,fun e=>(by cases e)⟩
    have hpan:∀ c a w,Q (.panic c) a w→QK Q l0 a0 (.panic c) a w:=fun c a w h=>⟨h,fun e=>(by cases e)⟩
    have hkk:∀ a1:Act,KeepD o.dst a a1→KeptL l0 a0 a1:=fun a1 h1 t ht=>(h1 t (ht o (hl o (List.mem_cons_self ..)))).trans (hk t ht)
    have hl':∀ o'∈l,o'∈l0:=fun o' ho'=>hl o' (List.mem_cons_of_mem _ ho')
    unfold wpList at h ⊢
    by_cases hw:Region.wanted o (yielded ops a.tmps)=true
    · rw [if_pos hw] at h ⊢
      rcases h with h | ⟨h,hh⟩
      · exact .inl (oper_keep h (fun a1 w1 h1 h2=>wpList_keep l a1 w1 h1 l0 a0 (hkk a1 h2) hl') hpan hlo)
      · exact .inr ⟨h,hlo hh⟩
    · rw [if_neg hw] at h ⊢
      exact wpList_keep l _ w h l0 a0 (hkk _ (keepD_put _ _ _)) hl'
end
theorem region_keep {ty:TypeId→Option TyI} (ht:TabOK ty) {X:Cx} {N:Nat} (hN:X.N=N) {s:AS} {a:Act} {w:World} (hr:Rel X s a w) {id:Nat} {l:List Oper} (K:AS→Prop) (h:∀ K':AS→Prop,(∀ s,K s→K' s)→aops ty N l l s K') :
    (Code.region id l.toArray false).wp Try.prog (fun e a' w'=>e=.normal∧(∃ s',K s'∧Rel X s' a' w')∧KeptL l a a') a w:=by
  subst hN
  have h1:=aops_ok (X:=X) ht (Q:=fun e a' w'=>e=.normal∧∃ s',K s'∧Rel X s' a' w') (fun s' _ _ h1 h2=>⟨rfl,s',h1,h2⟩) l s a w (h K fun _ h=>h) hr
  refine wp_mono (wp_region_lit (wpList_keep l a w h1 l a (fun _ _=>rfl) fun _ h=>h)) ?_
  rintro e a' w' ⟨⟨rfl,s',h2,h3⟩,h4⟩
  exact ⟨rfl,⟨s',h2,h3⟩,h4 rfl⟩
def gh (C:Nat→Nat→Prop) (bo:Nat):Gh:=⟨C,fun _=>.slice none 0 0,fun _=>0,fun _=>0,fun _=>bo⟩
structure RecX (X:Cx) (C:Nat→Nat→Prop) (w:World):Prop where
  N:X.N=90
  w0:X.w0=w
  L:∀ b,¬ X.L b
  C0:∀ b i,X.C0 b i↔C b i
theorem rel_at {C:Nat→Nat→Prop} {w:World} {bo:Nat} {a:Act} (hC:∀ b i,C b i→b<w.heap.size) (hn:a.tmps.size=90) (hd:a.defers=[]) (tl:List (Nat×AV)) (h:∀ p∈tl,CV (gh C bo) w p.2 (a.tmps.getD p.1 undef)):∃ X,RecX X C w∧Rel X (mkS tl []) a w:=by
  refine ⟨⟨w,fun _=>False,C,90,fun _=>0,fun _ h=>h.elim,hC⟩,⟨rfl,rfl,fun _ h=>h,fun _ _=>Iff.rfl⟩,gh C bo,⟨rfl,rfl,rfl,Nat.le_refl _,fun _ _ _=>rfl⟩,hd,hn,fun t ht=>?_,fun g=>⟨none,0,0,[],rfl,ownF_nil _ _ _ _,fun b hb=>by cases hb⟩,fun o l ho=>(by cases ho),hC,fun g g' _ _=>rfl,fun o o' ho=>absurd rfl ho,fun o g ho=>absurd rfl ho,fun o ho=>absurd rfl ho,fun b i hc _=>hc,fun b i _ hl=>hl,fun i ho=>absurd rfl ho,fun b i hc=>hc,fun b i hc hz=>?_⟩
  · show CV (gh C bo) w (lkT tl t) _
    clear ht hC
    induction tl with
    | nil=>trivial
    | cons p tl ih =>
      simp only [lkT]
      split
      · rename_i e;rw [e];exact h p (List.mem_cons_self ..)
      · exact ih fun q hq=>h q (List.mem_cons_of_mem _ hq)
  · have h1:=hC b i hc
    have h2:w.heap.size≤b:=hz
    omega
section
variable {C:Nat→Nat→Prop} {w:World} {bo:Nat} {hdr:Value} {outs:List (List RatD)}
theorem rec_blk {X:Cx} (hX:RecX X C w) {G:Gh} {s:AS} {a:Act} {w':World} (hr:RelG X G s a w'):∀ k,k<w.heap.size→w'.heap[k]? = w.heap[k]?:=fun k hk=>by
  have:=hr.fr.block k (by rw [hX.w0];exact hk) (hX.L k)
  rw [hX.w0] at this;exact this
theorem rec_step (hC:∀ b i,C b i→b<w.heap.size) (hO:OutW C w bo hdr outs) {X:Cx} (hX:RecX X C w) {G:Gh} {s:AS} {a:Act} {w':World} (hr:RelG X G s a w'):ChR C G.C w w' bo hdr hdr∧OutW G.C w' bo hdr outs∧Stay C G.C w w':=by
  have hblk:=rec_blk hX hr
  have hfr:=hr.fr
  rw [hX.w0] at hfr
  have hlc:∀ b i,G.C b i→b<w.heap.size→C b i:=fun b i hc hb=>(hX.C0 b i).1 (hr.lc b i hc (by rw [hX.w0];exact hb))
  have hst:Stay C G.C w w':=fun b i hc=>⟨hr.c0 b i ((hX.C0 b i).2 hc),World.cell?_of_block (w:=w) (hblk b (hC b i hc))⟩
  refine ⟨⟨hfr.os,hfr.tape,hfr.output,hfr.size,fun k hk _ _=>hblk k hk,fun b hb=>.inl hb,fun b i hc=>(hst b i hc).1,hr.cs,hlc,fun b i hc hz=>hr.uf b i hc (by rw [hX.w0];exact hz)⟩,hO.cellsC hst (hblk bo hO.lt) (fun q hq=>hblk q (hO.own q hq).2.1) hfr.size (fun i hc=>hO.noC i (hlc bo i hc hO.lt)) (fun q hq i hc=>(hO.own q hq).2.2 i (hlc q i hc (hO.own q hq).2.1)),hst⟩
end
section
variable (A:List (List RatD)) (B Cc:List RatD) (rows:List (List RatD)) (right:List RatD) (sg:Int)
theorem fold_len (d:Nat) (ch:List Nat) (ih:∀ k ch outs,k≤rows.length→(chF A B Cc rows right sg d k ch outs).length≤outs.length+2 ^ (rows.length - k)):∀ (m k:Nat) (outs:List (List RatD)),k+m=rows.length→((List.range' k m).foldl (fun o j=>chF A B Cc rows right sg d (j+1) (ch ++ [j]) o) outs).length+1≤outs.length+2 ^ m
  | 0,k,outs,_=>by simp
  | m+1,k,outs,h=>by
    rw [List.range'_succ,List.foldl_cons]
    have h1:=fold_len d ch ih m (k+1) (chF A B Cc rows right sg d (k+1) (ch ++ [k]) outs) (by omega)
    have h2:=ih (k+1) (ch ++ [k]) outs (by omega)
    rw [show rows.length - (k+1)=m by omega] at h2
    rw [Nat.pow_succ];omega
theorem chF_len:∀ (d k:Nat) (ch:List Nat) (outs:List (List RatD)),k≤rows.length→(chF A B Cc rows right sg d k ch outs).length≤outs.length+2 ^ (rows.length - k)
  | 0,k,ch,outs,_=>by
    have h1:=leafF_len A B Cc rows right sg ch outs
    have h2:=Nat.one_le_two_pow (n:=rows.length - k)
    simp only [chF];omega
  | d+1,k,ch,outs,hk=>by
    have h1:=fold_len A B Cc rows right sg d ch (chF_len d) (rows.length - k) k outs (by omega)
    simp only [chF];omega
theorem chF_mem:∀ (d k:Nat) (ch:List Nat) (outs:List (List RatD)) (y:List RatD),y∈chF A B Cc rows right sg d k ch outs→y∈outs∨y.length=ch.length+d
  | 0,k,ch,outs,y,h=>leafF_mem A B Cc rows right sg h
  | d+1,k,ch,outs,y,h=>by
    simp only [chF] at h
    generalize List.range' k (rows.length - k)=l at h
    induction l generalizing outs with
    | nil=>exact .inl h
    | cons j l ih =>
      rw [List.foldl_cons] at h
      rcases ih _ h with h1 | h1
      · rcases chF_mem d (j+1) (ch ++ [j]) outs y h1 with h2 | h2
        · exact .inl h2
        · right;rw [h2];simp;omega
      · exact .inr h1
end
end Go.Proofs.Ytpbclpopoodklaa
