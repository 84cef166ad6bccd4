/- Lemmas for the proof of FnExactMaximize, part 38 of 56: no condition of their own. -/
import Derived.Test.YtpbclpopoodklaaSR
namespace Go.Proofs.Ytpbclpopoodklaa
set_option linter.unusedSimpArgs false
set_option linter.unusedVariables false
attribute [local go_sem ↓] reduceIte
attribute [local go_sem] Nat.reduceEqDiff Nat.reduceLT Nat.reduceAdd Nat.reduceLeDiff Nat.reduceMul Nat.reduceBEq Nat.reduceSub reduceCtorEq Int.reduceLE Int.reduceNeg Int.reduceLT
open Go.RowKit
theorem loc_of {G:Gh} {w:World} {q bo:Nat} {l:List AV} {C1:Nat→Nat→Prop} {ds:List DV} (ho:ObOK G w q l) (hl:∀ us,CVs G w l us→CXk C1 w 1 ds us) (hC:∀ i,i<l.length→C1 (G.ad q) i):CV (gh C1 bo) w (.loc ds) (.pointer (some ⟨G.ad q,0,none⟩)):=by
  obtain ⟨g1,g2,us,g3,g4,g5⟩:=ho
  refine ⟨G.ad q,0,us,rfl,hl us g3,fun i u hu=>?_⟩
  have hi:=(List.getElem?_eq_some_iff.1 hu).1
  rw [Nat.zero_add]
  exact ⟨hC i (by rw [← g3.len];exact hi),(g5 i u hu).1⟩
def capP:List AV:=[.ptr 5 0,.ptr 6 0,.ptr 12 0,.ptr 7 0,.ptr 2 0,.ptr 3 0,.ptr 11 0]
section
variable {A:List (List RatD)} {B Cc:List RatD} {rows:List (List RatD)} {right:List RatD} {sg:Int} {n:Nat}
theorem choose_rel (hR:RowsOK A B Cc rows right n) (hsg:sg=1∨sg = -1) {X:Cx} {G:Gh} {s:AS} {a:Act} {w:World} (hr:RelG X G s a w) (hN:12<X.N) {g6 g7:Nat} {T6 T7:TypeId} (h5:s.ob 5=some [.d (.int (n:Nat))]) (h6:s.ob 6=some [.buf g6 T6 1 (rows.map ratsD)]) (h12:s.ob 12=some [.fn 45 capP]) (h7:s.ob 7=some [.buf g7 T7 2 (right.map ratDV)]) (h2:s.ob 2=some [.d (matD A),.d (ratsD B),.d (ratsD Cc)]) (h3:s.ob 3=some [.d (.int sg)]) (h11:s.ob 11=some [.nil]) (ht11:s.tm 11=.ptr 11 0) {v:Value} (hv:CV G w (.fn 45 capP) v) :
    ∃ (ptrs:List Value),v=.func (.func 45) #[] ptrs.toArray∧Calls Try.prog 45 ([Value.int .i64 ((0:Nat):Int),Value.slice none 0 0] ++ ptrs).toArray w (fun e w'=>∃ r,e=.returned r∧∃ G',RelG X G' (mkS [(11,.ptr 11 0)] [(11,[.d (.wh 1 ((chF A B Cc rows right sg n 0 [] []).map whQ))])]) a w'):=by
  obtain ⟨bo,hbo⟩:∃ bo,bo=G.ad 11:=⟨_,rfl⟩
  obtain ⟨C1,hC1⟩:∃ C1:Nat→Nat→Prop,C1=fun b i=>G.C b i∨∃ q l,(q=5∨q=6∨q=12∨q=7∨q=2∨q=3)∧s.ob q=some l∧b=G.ad q∧i<l.length:=⟨_,rfl⟩
  have hin:∀ q l,(q=5∨q=6∨q=12∨q=7∨q=2∨q=3)→s.ob q=some l→∀ i,i<l.length→C1 (G.ad q) i:=fun q l hq hl i hi=>by rw [hC1];exact .inr ⟨q,l,hq,hl,rfl,hi⟩
  have hGC:∀ b i,G.C b i→C1 b i:=fun b i h=>by rw [hC1];exact .inl h
  have hlt:∀ b i,C1 b i→b<w.heap.size:=fun b i h=>by
    rw [hC1] at h
    rcases h with h | ⟨q,l,_,hl,rfl,_⟩
    · exact hr.cs b i h
    · exact (hr.ob q l hl).1
  have hst:Stay G.C C1 w w:=fun b i h=>⟨hGC b i h,rfl⟩
  have h11n:s.ob 11 ≠ none:=by rw [h11];exact fun x=>(by cases x)
  have hnC:∀ i,¬ C1 bo i:=fun i h=>by
    rw [hC1] at h
    rcases h with h | ⟨q,l,hq,hl,e,_⟩
    · rw [hbo] at h;exact (hr.ob 11 _ h11).2.1 i h
    · rw [hbo] at e
      have:=hr.d2 11 q h11n (by rw [hl];exact fun x=>(by cases x)) e
      omega
  obtain ⟨q1,q2,us11,q3,q4,q5⟩:=hr.ob 11 _ h11
  have hcell11:w.cell? ⟨bo,0,none⟩=some (.slice none 0 0)∧w.frozen? ⟨bo,0,none⟩=false:=by
    obtain ⟨u,us',rfl,hu,rfl⟩:=q3
    have hu:u=.slice none 0 0:=hu
    rw [hbo,← hu]
    exact q5 0 u rfl
  have hO:OutW C1 w bo (.slice none 0 0) []:=⟨by rw [hbo];exact q1,hnC,hcell11.1,hcell11.2,none,0,0,[],rfl,ownF_nil _ _ _ _,rfl,fun b hb=>by cases hb⟩
  obtain ⟨vs,hv1,hv2⟩:=hv
  obtain ⟨p5,u5,rfl,e5,hv2⟩:=hv2
  obtain ⟨p6,u6,rfl,e6,hv2⟩:=hv2
  obtain ⟨p12,u12,rfl,e12,hv2⟩:=hv2
  obtain ⟨p7,u7,rfl,e7,hv2⟩:=hv2
  obtain ⟨p2,u2,rfl,e2,hv2⟩:=hv2
  obtain ⟨p3,u3,rfl,e3,hv2⟩:=hv2
  obtain ⟨p11,u11,rfl,e11,hv2⟩:=hv2
  obtain rfl:=hv2
  simp only [CV] at e5 e6 e12 e7 e2 e3 e11
  subst e5;subst e6;subst e12;subst e7;subst e2;subst e3
  rw [← hbo] at e11
  subst e11
  have hfl:∀ (ds:List DV) (us:List Value),leaves ds=true→CVs G w (ds.map .d) us→CXk C1 w 1 ds us:=fun ds us hl h=>CXk.stay hst 1 _ _ (CXs.leaves hl (cvs_leaves hl h))
  have hE:CVs (gh C1 bo) w (envL A B Cc rows right sg n v) [.pointer (some ⟨G.ad 5,0,none⟩),.pointer (some ⟨G.ad 6,0,none⟩),.pointer (some ⟨G.ad 12,0,none⟩),.pointer (some ⟨G.ad 7,0,none⟩),.pointer (some ⟨G.ad 2,0,none⟩),.pointer (some ⟨G.ad 3,0,none⟩)]:=by
    refine ⟨_,_,rfl,loc_of (hr.ob 5 _ h5) (fun us h=>hfl [.int (n:Nat)] us rfl h) (hin 5 _ (by omega) h5),_,_,rfl,loc_of (hr.ob 6 _ h6) (fun us h=>?_) (hin 6 _ (by omega) h6),_,_,rfl,loc_of (hr.ob 12 _ h12) (fun us h=>?_) (hin 12 _ (by omega) h12),_,_,rfl,loc_of (hr.ob 7 _ h7) (fun us h=>?_) (hin 7 _ (by omega) h7),_,_,rfl,loc_of (hr.ob 2 _ h2) (fun us h=>hfl [matD A,ratsD B,ratsD Cc] us rfl h) (hin 2 _ (by omega) h2),_,_,rfl,loc_of (hr.ob 3 _ h3) (fun us h=>hfl [.int sg] us rfl h) (hin 3 _ (by omega) h3),rfl⟩
    · obtain ⟨u,us',rfl,hu,rfl⟩:=h
      exact ⟨[u],[],rfl,CX.stay hst _ _ (wh_sl hu.2.2.2),rfl,rfl⟩
    · obtain ⟨u,us',rfl,⟨vs,hu,hvs⟩,rfl⟩:=h
      have:u=v:=by
        rw [hu,hv1]
        obtain ⟨p5,u5,rfl,e5,hvs⟩:=hvs
        obtain ⟨p6,u6,rfl,e6,hvs⟩:=hvs
        obtain ⟨p12,u12,rfl,e12,hvs⟩:=hvs
        obtain ⟨p7,u7,rfl,e7,hvs⟩:=hvs
        obtain ⟨p2,u2,rfl,e2,hvs⟩:=hvs
        obtain ⟨p3,u3,rfl,e3,hvs⟩:=hvs
        obtain ⟨p11,u11,rfl,e11,hvs⟩:=hvs
        obtain rfl:=hvs
        simp only [CV] at e5 e6 e12 e7 e2 e3 e11
        rw [e5,e6,e12,e7,e2,e3,e11,hbo]
      rw [this]
      refine ⟨[v],[],rfl,⟨rfl,by rw [hv1];rfl⟩,rfl,rfl⟩
    · obtain ⟨u,us',rfl,hu,rfl⟩:=h
      exact ⟨[u],[],rfl,CX.stay hst _ _ (wh_sl hu.2.2.2),rfl,rfl⟩
  refine ⟨_,hv1,?_⟩
  have hcall:=choose_calls hR hsg (bo:=bo) (ptrs:=[.pointer (some ⟨G.ad 5,0,none⟩),.pointer (some ⟨G.ad 6,0,none⟩),.pointer (some ⟨G.ad 12,0,none⟩),.pointer (some ⟨G.ad 7,0,none⟩),.pointer (some ⟨G.ad 2,0,none⟩),.pointer (some ⟨G.ad 3,0,none⟩)]) rfl hv1 n 0 [] [] w C1 (.slice none 0 0) (.slice none 0 0) (by simp) (Nat.zero_le _) (fun k hk=>by cases hk) (by
    have:=hR.T
    have h1:2 ^ (rows.length - 0)≤2 ^ 10:=Nat.pow_le_pow_right (by decide) (by omega)
    simp only [List.length_nil]
    omega) (fun y hy=>by cases hy) hlt hO hE (cx_nil _ _ _)
  refine Calls.mono hcall ?_
  rintro e w' ⟨r,C',hdr',rfl,hc,hO'⟩
  refine ⟨r,rfl,?_⟩
  generalize chF A B Cc rows right sg n 0 [] []=outs at hO'
  obtain ⟨a9,m9,c9,vs9,rfl,o1,o2,o3⟩:=hO'.buf
  have hown:=hO'.own
  have hml:vs9.length=outs.length:=by have:=o2.len;simpa using this
  have hvm:vs9.length=m9:=by have:=o1.1.1;simpa using this
  have hxfr:=hr.fr
  have hbo0:X.w0.heap.size≤bo:=by rw [hbo];exact (hr.ow 11 h11n).1 (by decide)
  have hboL:¬ X.L bo:=fun h=>by have:=X.hL bo h;omega
  have hblk:∀ k,k<w.heap.size→k ≠ bo→w'.heap[k]? = w.heap[k]?:=fun k hk h=>hc.block k hk h (fun e=>(by cases e))
  have hownw:∀ q,(Value.slice a9 m9 c9).ownBlock=some q→w.heap.size≤q:=fun q hq=>by
    rcases hc.own q hq with h | h
    · cases h
    · exact h
  obtain ⟨C2,hC2⟩:∃ C2:Nat→Nat→Prop,C2=fun b i=>C' b i∨(Value.slice a9 m9 c9).ownBlock=some b:=⟨_,rfl⟩
  have hcc:∀ b i,C' b i→C2 b i:=fun b i h=>by rw [hC2];exact .inl h
  have hC2lt:∀ b i,C2 b i→b<w'.heap.size:=fun b i h=>by
    rw [hC2] at h
    rcases h with h | h
    · exact hc.cs b i h
    · exact (hown b h).2.1
  have hnb:∀ i,¬ C2 bo i:=fun i h=>by
    rw [hC2] at h
    rcases h with h | h
    · exact hO'.noC i h
    · exact (hown bo h).1 rfl
  have hlow:∀ b i,C2 b i→b<w.heap.size→C1 b i:=fun b i h hb=>by
    rw [hC2] at h
    rcases h with h | h
    · exact hc.lc b i h hb
    · have:=hownw b h;omega
  have hC1X:∀ b i,C1 b i→b<X.w0.heap.size→X.C0 b i:=fun b i h hb=>by
    rw [hC1] at h
    rcases h with h | ⟨q,l,hq,hl,e,_⟩
    · exact hr.lc b i h hb
    · have:=(hr.ow q (by rw [hl];exact fun x=>(by cases x))).1 (by omega)
      omega
  have hC1f:∀ b i,C1 b i→X.w0.heap.size≤b→w.frozen? ⟨b,i,none⟩=false:=fun b i h hb=>by
    rw [hC1] at h
    rcases h with h | ⟨q,l,hq,hl,e,hi⟩
    · exact hr.uf b i h hb
    · obtain ⟨_,_,us,g3,_,g5⟩:=hr.ob q l hl
      have hiu:i<us.length:=by rw [g3.len];exact hi
      rw [e]
      exact (g5 i us[i] (List.getElem?_eq_getElem hiu)).2
  have hcx:CX C2 w' (.wh 1 (outs.map whQ)) [.slice a9 m9 c9]:=by
    obtain ⟨f1,f2,f3,f4,f5,f6⟩:=o1.flat
    refine ⟨a9,m9,c9,vs9,rfl,by rw [List.length_map];omega,CXk.stay (C:=C') (fun b i h=>⟨hcc b i h,rfl⟩) 1 _ _ o2,⟨f1,f2,f3,f6,f4,fun hn=>?_⟩,fun hn=>?_⟩
    · obtain ⟨b,off,e1,_,hlt,e2⟩:=f5 hn
      obtain ⟨g0,r1,_,_⟩:=o1.head hn
      rw [r1] at e1
      simp only [Option.some.injEq,Addr.mk.injEq,and_true] at e1
      obtain ⟨rfl,rfl⟩:=e1
      refine ⟨g0,0,r1,fun i u hu=>⟨?_,e2 i u hu⟩⟩
      rw [hC2]
      exact .inr (by rw [r1];rfl)
    · obtain ⟨g0,r1,_,_⟩:=o1.head hn
      exact ⟨g0,r1,0,fun i _=>by rw [hC2];exact .inr (by rw [r1];rfl)⟩
  let G':Gh:=⟨C2,fun _=>.slice none 0 0,fun _=>0,fun _=>0,fun _=>bo⟩
  refine ⟨G',⟨hc.os.trans hxfr.os,hc.tape.trans hxfr.tape,hc.output.trans hxfr.output,Nat.le_trans hxfr.size hc.size,fun b hb hl=>(hblk b (Nat.lt_of_lt_of_le hb hxfr.size) (by omega)).trans (hxfr.block b hb hl)⟩,hr.df,hr.n,fun t ht=>?_,fun g=>⟨none,0,0,[],rfl,ownF_nil _ _ _ _,fun b hb=>by cases hb⟩,fun o l ho=>?_,hC2lt,fun g g' _ _=>rfl,fun o o' ho ho' _=>?_,fun o g ho e=>(by cases e),fun o ho=>⟨fun _=>hbo0,.inl hbo0⟩,fun b i h hb=>hC1X b i (hlow b i h (Nat.lt_of_lt_of_le hb hxfr.size)) hb,fun b i h hl=>?_,fun i ho=>?_,fun b i h=>?_,fun b i h hz=>?_⟩
  · show CV G' w' (if t=11 then .ptr 11 0 else .junk) _
    by_cases e:t=11
    · rw [if_pos e,e]
      have:=hr.tm 11 (by omega)
      rw [ht11] at this
      show _=_
      rw [show a.tmps.getD 11 undef=.pointer (some ⟨G.ad 11,0,none⟩) from this,← hbo]
    · rw [if_neg e];trivial
  · have ho:(if o=11 then some [AV.d (.wh 1 (outs.map whQ))] else none)=some l:=ho
    by_cases e:o=11
    · rw [if_pos e] at ho
      cases ho
      refine ⟨hO'.lt,hnb,[.slice a9 m9 c9],⟨_,[],rfl,cvWh.2 hcx,rfl⟩,fun u hu=>by rw [List.mem_singleton.1 hu];rfl,fun i u hu=>?_⟩
      have hi:i=0:=by have:=(List.getElem?_eq_some_iff.1 hu).1;simpa using this
      subst hi
      simp only [List.getElem?_cons_zero,Option.some.injEq] at hu
      subst hu
      exact ⟨hO'.cell,hO'.frz⟩
    · rw [if_neg e] at ho;cases ho
  · have key:∀ q,(mkS [(11,.ptr 11 0)] [(11,[AV.d (.wh 1 (outs.map whQ))])]).ob q ≠ none→q=11:=fun q hq=>by
      refine Classical.byContradiction fun hne=>hq ?_
      show (if q=11 then _ else none)=none
      rw [if_neg hne]
    rw [key o ho,key o' ho']
  · have hlb:=X.hL b hl
    exact hr.nl b i (hr.c0 b i (hC1X b i (hlow b i h (Nat.lt_of_lt_of_le hlb hxfr.size)) hlb)) hl
  · exfalso
    refine ho ?_
    show (if 1000000+i=11 then _ else none)=none
    rw [if_neg (by omega)]
  · exact hcc b i (hc.cc b i (hGC b i (hr.c0 b i h)))
  · have h:C2 b i:=h
    rw [hC2] at h
    have hz:X.w0.heap.size≤b:=hz
    rcases h with h | h
    · by_cases e:b<w.heap.size
      · have h1:=hc.lc b i h e
        rw [World.frozen?_of_block (w:=w) (hblk b e (fun e2=>hnC i (e2 ▸ h1)))]
        exact hC1f b i h1 hz
      · exact hc.uf b i h (by omega)
    · rcases o1.1.2 with ⟨r1,_⟩ | ⟨g0,cap,cur,r1,_⟩
      · rw [r1] at h;cases h
      · simp only [Value.slice.injEq] at r1
        obtain ⟨rfl,_,_⟩:=r1
        have:g0=b:=by have:=h;simpa [Value.ownBlock] using this
        subst this
        exact o1.free i
theorem lstep_choose (hR:RowsOK A B Cc rows right n) (hsg:sg=1∨sg = -1) {P:Cx→Prop} {N:Nat} (hN:60≤N∨52<N) {s:AS} {K:AS→Prop} {o:Oper} {g6 g7:Nat} {T6 T7:TypeId} {ats:Array TypeId} (ho:o.op=.call { callee:=.value (.tmp 51),args:=#[.const (.int .i64 0),.const (.slice none 0 0)],argTypes:=ats }) (hd:o.dst=some 52)
    (h51:s.tm 51=.fn 45 capP) (h5:s.ob 5=some [.d (.int (n:Nat))]) (h6:s.ob 6=some [.buf g6 T6 1 (rows.map ratsD)]) (h12:s.ob 12=some [.fn 45 capP]) (h7:s.ob 7=some [.buf g7 T7 2 (right.map ratDV)]) (h2:s.ob 2=some [.d (matD A),.d (ratsD B),.d (ratsD Cc)]) (h3:s.ob 3=some [.d (.int sg)]) (h11:s.ob 11=some [.nil]) (ht11:s.tm 11=.ptr 11 0)
    (hK:K ((mkS [(11,.ptr 11 0)] [(11,[.d (.wh 1 ((chF A B Cc rows right sg n 0 [] []).map whQ))])]).put 52 .junk)):LStep P N o s K:=by
  intro X G a w hNX _ hr nx Q hn
  have hv:=hr.tm 51 (by omega)
  rw [h51] at hv
  obtain ⟨ptrs,e1,hcall⟩:=choose_rel hR hsg hr (by omega) h5 h6 h12 h7 h2 h3 h11 ht11 hv
  unfold Oper.wp
  rw [run_callV ho e1 Try.func45 rfl rfl]
  refine Calls.mono hcall ?_
  rintro e w' ⟨r,rfl,G',hr'⟩
  rw [hd]
  exact hn _ _ _ hK ⟨G',hr'.put 52 trivial⟩
end
theorem implBitA (b:Bool):AFn 44 [.d (.bool b)] [] (fun r os=>r=.d (.int (if b=true then 1 else 0))∧os=[]):=by
  refine afn_of (rv:=[.tmp 2]) tyT_ok Try.func44 rfl (by decide +kernel) Try.ntmps44 rfl (by simp) ?_
  cases b with
  | false =>
    repeat' (first | refine awp_seq ?_ | refine stp ?_ | refine blk_o (by decide) ?_ | (apply awp_condB;(focus (simp (disch:=(first | omega | (simp;omega))) only [go_sem,w64];try exact rfl));first | with_reducible refine condOf_t ?_ | with_reducible refine condOf_f ?_) | (refine awp_region' tyT_ok ?_;intro K hK) | (refine awp_drawA ?_;intro K hK) | (with_reducible refine hK _ ?_;clear hK K) | (refine stq ?_;simp (disch:=(first | omega | (simp;omega))) only [go_sem,w64]) | refine and_side ?_ | fail)
    (refine endA (r:=.d (.int 0)) ?_)
    exact ⟨rfl,rfl⟩
  | true =>
    repeat' (first | refine awp_seq ?_ | refine stp ?_ | refine blk_o (by decide) ?_ | (apply awp_condB;(focus (simp (disch:=(first | omega | (simp;omega))) only [go_sem,w64];try exact rfl));first | with_reducible refine condOf_t ?_ | with_reducible refine condOf_f ?_) | (refine awp_region' tyT_ok ?_;intro K hK) | (refine awp_drawA ?_;intro K hK) | (with_reducible refine hK _ ?_;clear hK K) | (refine stq ?_;simp (disch:=(first | omega | (simp;omega))) only [go_sem,w64]) | refine and_side ?_ | fail)
    (refine endA (r:=.d (.int 1)) ?_)
    exact ⟨rfl,rfl⟩
set_option maxHeartbeats 4000000 in
theorem implVertA (A:List (List RatD)) (B Cc:List RatD) (sg:Int) (hlp:lpV A B Cc=true) (hsg:sg=1∨sg = -1):AFn 30 [.d (lpD A B Cc),.d (.int sg)] [] (fun r os=>r=.d (.wh 1 ((vertF A B Cc sg).map whQ))∧os=[]):=by
  have hRO:=rows_ok hlp
  obtain ⟨⟨hC1,hC5⟩,⟨hB1,hB5⟩,h3,h4,h5⟩:=lpV_out hlp
  obtain ⟨h6,h7⟩:=matOK_out h3
  refine afn_of (rv:=[.tmp 4]) tyT_ok Try.func30 rfl (by decide +kernel) Try.ntmps30 rfl (by simp) ?_
  have hcl:(Cc.map ratDV).length=Cc.length:=List.length_map ..
  have hal:(A.map ratsD).length=A.length:=List.length_map ..
  repeat' (first | refine awp_seq ?_ | refine stp ?_ | refine blk_o (by decide) ?_ | (apply awp_condB;(focus (simp (disch:=(first | omega | (simp;omega))) only [go_sem,w64,lpD,matD,ratsD,hcl,hal];try exact rfl));first | with_reducible refine condOf_t ?_ | with_reducible refine condOf_f ?_) | (refine awp_region' tyT_ok ?_;intro K hK) | (refine awp_drawA ?_;intro K hK) | (with_reducible refine hK _ ?_;clear hK K) | (refine stq ?_;simp (disch:=(first | omega | (simp;omega))) only [go_sem,w64,lpD,matD,ratsD,hcl,hal]) | refine and_side ?_ | fail)
  (first | refine callA (implCopyQ B (by omega)) ?_ | refine callD (implCopyQ B (by omega)) ?_ | refine callE (implCopyQ B (by omega)) ?_ | refine callF (implCopyQ B (by omega)) ?_ ?_)
  repeat' (first | refine awp_seq ?_ | refine stp ?_ | refine blk_o (by decide) ?_ | (apply awp_condB;(focus (simp (disch:=(first | omega | (simp;omega))) only [go_sem,w64,lpD,matD,ratsD,hcl];try exact rfl));first | with_reducible refine condOf_t ?_ | with_reducible refine condOf_f ?_) | (refine awp_region' tyT_ok ?_;intro K hK) | (refine awp_drawA ?_;intro K hK) | (with_reducible refine hK _ ?_;clear hK K) | (refine stq ?_;simp (disch:=(first | omega | (simp;omega))) only [go_sem,w64,lpD,matD,ratsD,hcl]) | refine and_side ?_ | fail)
  generalize hn:Cc.length=n at *
  refine awp_loopw (fun mm s=>∃ i:Nat,mm=n - i∧i≤n∧s=mkS [(2,.ptr 2 0),(3,.ptr 3 0),(5,.ptr 5 0),(6,.ptr 6 0),(7,.ptr 7 0),(8,.d (.int (i:Nat)))] [(2,[.d (matD A),.d (ratsD B),.d (ratsD Cc)]),(3,[.d (.int sg)]),(5,[.d (.int (n:Nat))]),(6,[.buf 16 29 1 ((A ++ (List.range i).map (unitR n)).map ratsD)]),(7,[.buf 22 39 2 ((B ++ List.replicate i (⟨0,1⟩:RatD)).map ratDV)])]) ?_ ?_
  · refine ⟨_,_,?_,0,rfl,Nat.zero_le _,rfl⟩
    (refine sle_mk ?_ ?_ <;> simp (disch:=(first | omega | (simp;omega))) only [go_sem,w64,lpD,matD,ratsD,hcl,List.range_zero,List.map_nil,List.append_nil,List.replicate_zero] <;> exact leafs)
  · rintro mm s ⟨i,rfl,hi,rfl⟩
    have hAl:(A ++ (List.range i).map (unitR n)).length=A.length+i:=by simp
    have hBl:(B ++ List.replicate i (⟨0,1⟩:RatD)).length=B.length+i:=by simp
    repeat' (first | refine awp_seq ?_ | refine stp ?_ | refine blk_o (by decide) ?_ | (apply awp_condB;(focus (simp (disch:=(first | omega | (simp;omega))) only [go_sem,w64];try exact rfl));first | with_reducible refine condOf_t ?_ | with_reducible refine condOf_f ?_) | (refine awp_region' tyT_ok ?_;intro K hK) | (refine awp_drawA ?_;intro K hK) | (with_reducible refine hK _ ?_;clear hK K) | (refine stq ?_;simp (disch:=(first | omega | (simp;omega))) only [go_sem,w64]) | refine and_side ?_ | fail)
    refine awp_if (p:=(i:Int)<(n:Nat)) (by simp (disch:=(first | omega | (simp;omega))) only [go_sem,w64]) ?_ ?_ <;> intro hc
    · have hi2:i<n:=by omega
      repeat' (first | refine awp_seq ?_ | refine stp ?_ | refine blk_o (by decide) ?_ | (apply awp_condB;(focus (simp (disch:=(first | omega | (simp;omega))) only [go_sem,w64];try exact rfl));first | with_reducible refine condOf_t ?_ | with_reducible refine condOf_f ?_) | (refine awp_region' tyT_ok ?_;intro K hK) | (refine awp_drawA ?_;intro K hK) | (with_reducible refine hK _ ?_;clear hK K) | (refine stq ?_;simp (disch:=(first | omega | (simp;omega))) only [go_sem,w64]) | refine and_side ?_ | fail)
      refine awp_loopw (fun mm s=>∃ k:Nat,mm=n - k∧k≤n∧s=mkS [(2,.ptr 2 0),(3,.ptr 3 0),(5,.ptr 5 0),(6,.ptr 6 0),(7,.ptr 7 0),(8,.d (.int (i:Nat))),(9,.buf 28 39 2 (((List.range k).map fun j:Nat=>(⟨if i=j then 1 else 0,1⟩:RatD)).map ratDV)),(10,.d (.int (k:Nat)))] [(2,[.d (matD A),.d (ratsD B),.d (ratsD Cc)]),(3,[.d (.int sg)]),(5,[.d (.int (n:Nat))]),(6,[.buf 16 29 1 ((A ++ (List.range i).map (unitR n)).map ratsD)]),(7,[.buf 22 39 2 ((B ++ List.replicate i (⟨0,1⟩:RatD)).map ratDV)])]) ?_ ?_
      · refine ⟨_,_,?_,0,rfl,Nat.zero_le _,rfl⟩
        (refine sle_mk ?_ ?_ <;> simp (disch:=(first | omega | (simp;omega))) only [go_sem,w64,List.range_zero,List.map_nil] <;> exact leafs)
      · rintro mm s ⟨k,rfl,hk,rfl⟩
        have hkl:((List.range k).map fun j:Nat=>(⟨if i=j then 1 else 0,1⟩:RatD)).length=k:=by simp
        repeat' (first | refine awp_seq ?_ | refine stp ?_ | refine blk_o (by decide) ?_ | (apply awp_condB;(focus (simp (disch:=(first | omega | (simp;omega))) only [go_sem,w64];try exact rfl));first | with_reducible refine condOf_t ?_ | with_reducible refine condOf_f ?_) | (refine awp_region' tyT_ok ?_;intro K hK) | (refine awp_drawA ?_;intro K hK) | (with_reducible refine hK _ ?_;clear hK K) | (refine stq ?_;simp (disch:=(first | omega | (simp;omega))) only [go_sem,w64]) | refine and_side ?_ | fail)
        refine awp_if (p:=(k:Int)<(n:Nat)) (by simp (disch:=(first | omega | (simp;omega))) only [go_sem,w64]) ?_ ?_ <;> intro hc2
        · have hk2:k<n:=by omega
          repeat' (first | refine awp_seq ?_ | refine stp ?_ | refine blk_o (by decide) ?_ | (apply awp_condB;(focus (simp (disch:=(first | omega | (simp;omega))) only [go_sem,w64];try exact rfl));first | with_reducible refine condOf_t ?_ | with_reducible refine condOf_f ?_) | (refine awp_region' tyT_ok ?_;intro K hK) | (refine awp_drawA ?_;intro K hK) | (with_reducible refine hK _ ?_;clear hK K) | (refine stq ?_;simp (disch:=(first | omega | (simp;omega))) only [go_sem,w64]) | refine and_side ?_ | fail)
          (first | refine callA (implBitA (decide ((i:Int)=(k:Nat)))) ?_ | refine callD (implBitA (decide ((i:Int)=(k:Nat)))) ?_ | refine callE (implBitA (decide ((i:Int)=(k:Nat)))) ?_ | refine callF (implBitA (decide ((i:Int)=(k:Nat)))) ?_ ?_)
          have e1:(if decide ((i:Int)=(k:Nat))=true then (1:Int) else 0)=if i=k then 1 else 0:=by
            by_cases h:i=k
            · rw [if_pos (decide_eq_true (by omega)),if_pos h]
            · rw [decide_eq_false (by omega),if_neg h];rfl
          rw [e1]
          repeat' (first | refine awp_seq ?_ | refine stp ?_ | refine blk_o (by decide) ?_ | (apply awp_condB;(focus (simp (disch:=(first | omega | (simp;omega))) only [go_sem,w64,hkl,ratDV];try exact rfl));first | with_reducible refine condOf_t ?_ | with_reducible refine condOf_f ?_) | (refine awp_region' tyT_ok ?_;intro K hK) | (refine awp_drawA ?_;intro K hK) | (with_reducible refine hK _ ?_;clear hK K) | (refine stq ?_;simp (disch:=(first | omega | (simp;omega))) only [go_sem,w64,hkl,ratDV]) | refine and_side ?_ | fail)
          refine ⟨n - (k+1),_,by omega,?_,k+1,rfl,by omega,rfl⟩
          (refine sle_mk ?_ ?_ <;> simp (disch:=(first | omega | (simp;omega))) only [go_sem,w64,List.range_succ,List.map_append,List.map_cons,List.map_nil,ratDV] <;> exact leafs)
        · obtain rfl:n=k:=by omega
          repeat' (first | refine awp_seq ?_ | refine stp ?_ | refine blk_o (by decide) ?_ | (apply awp_condB;(focus (simp (disch:=(first | omega | (simp;omega))) only [go_sem,w64,hkl,hAl,hBl,ratDV];try exact rfl));first | with_reducible refine condOf_t ?_ | with_reducible refine condOf_f ?_) | (refine awp_region' tyT_ok ?_;intro K hK) | (refine awp_drawA ?_;intro K hK) | (with_reducible refine hK _ ?_;clear hK K) | (refine stq ?_;simp (disch:=(first | omega | (simp;omega))) only [go_sem,w64,hkl,hAl,hBl,ratDV]) | refine and_side ?_ | fail)
          refine ⟨n - (i+1),_,by omega,?_,i+1,rfl,by omega,rfl⟩
          have e1:A ++ (List.range (i+1)).map (unitR n)=(A ++ (List.range i).map (unitR n)) ++ [unitR n i]:=by rw [List.range_succ,List.map_append,List.append_assoc];rfl
          have e2:B ++ List.replicate (i+1) (⟨0,1⟩:RatD)=(B ++ List.replicate i (⟨0,1⟩:RatD)) ++ [⟨0,1⟩]:=by rw [List.replicate_succ',List.append_assoc]
          rw [e1,e2]
          (refine sle_mk ?_ ?_ <;> simp (disch:=(first | omega | (simp;omega))) only [go_sem,w64,List.map_append,List.map_cons,List.map_nil,ratDV,unitR] <;> exact leafs)
    · obtain rfl:n=i:=by omega
      repeat' (first | refine awp_seq ?_ | refine stp ?_ | refine blk_o (by decide) ?_ | (apply awp_condB;(focus (simp (disch:=(first | omega | (simp;omega))) only [go_sem,w64];try exact rfl));first | with_reducible refine condOf_t ?_ | with_reducible refine condOf_f ?_) | (with_reducible refine hK _ ?_;clear hK K) | (refine stq ?_;simp (disch:=(first | omega | (simp;omega))) only [go_sem,w64]) | refine and_side ?_ | fail)
      ((refine awp_region' tyT_ok ?_;intro K hK);repeat' (first | (with_reducible refine hK _ ?_;clear hK K) | (refine stq ?_;simp (disch:=(first | omega | (simp;omega))) only [go_sem,w64]) | refine and_side ?_ | fail))
      repeat' (first | refine awp_seq ?_ | refine stp ?_ | refine blk_o (by decide) ?_ | (apply awp_condB;(focus (simp (disch:=(first | omega | (simp;omega))) only [go_sem,w64];try exact rfl));first | with_reducible refine condOf_t ?_ | with_reducible refine condOf_f ?_) | (with_reducible refine hK _ ?_;clear hK K) | (refine stq ?_;simp (disch:=(first | omega | (simp;omega))) only [go_sem,w64]) | refine and_side ?_ | fail)
      ((refine awp_region' tyF_ok ?_;intro K hK);repeat' (first | (with_reducible refine hK _ ?_;clear hK K) | (refine stq ?_;simp (disch:=(first | omega | (simp;omega))) only [go_sem,w64,tyF]) | refine and_side ?_ | fail))
      repeat' (first | refine awp_seq ?_ | refine stp ?_ | refine blk_o (by decide) ?_ | (apply awp_condB;(focus (simp (disch:=(first | omega | (simp;omega))) only [go_sem,w64];try exact rfl));first | with_reducible refine condOf_t ?_ | with_reducible refine condOf_f ?_) | (with_reducible refine hK _ ?_;clear hK K) | (refine stq ?_;simp (disch:=(first | omega | (simp;omega))) only [go_sem,w64]) | refine and_side ?_ | fail)
      ((refine awp_region' tyF_ok ?_;intro K hK);repeat' (first | (with_reducible refine hK _ ?_;clear hK K) | (refine stq ?_;simp (disch:=(first | omega | (simp;omega))) only [go_sem,w64,tyF]) | refine and_side ?_ | fail))
      repeat' (first | refine awp_seq ?_ | refine stp ?_ | refine blk_o (by decide) ?_ | (apply awp_condB;(focus (simp (disch:=(first | omega | (simp;omega))) only [go_sem,w64];try exact rfl));first | with_reducible refine condOf_t ?_ | with_reducible refine condOf_f ?_) | (with_reducible refine hK _ ?_;clear hK K) | (refine stq ?_;simp (disch:=(first | omega | (simp;omega))) only [go_sem,w64]) | refine and_side ?_ | fail)
      refine awp_regionX tyF_ok 1 rfl rfl ?_
      intro K hK
      simp only [List.take_succ_cons,List.take_zero,List.drop_succ_cons,List.drop_zero]
      have hRO2:RowsOK A B Cc (A ++ (List.range n).map (unitR n)) (B ++ List.replicate n (⟨0,1⟩:RatD)) n:=hRO
      have hvf:vertF A B Cc sg=chF A B Cc (A ++ (List.range n).map (unitR n)) (B ++ List.replicate n (⟨0,1⟩:RatD)) sg n 0 [] []:=by rw [← hn];rfl
      rw [hvf] at hK
      clear hvf hRO
      generalize A ++ (List.range n).map (unitR n)=rows at *
      generalize B ++ List.replicate n (⟨0,1⟩:RatD)=right at *
      have fin:K ((mkS [(11,.ptr 11 0)] [(11,[.d (.wh 1 ((chF A B Cc rows right sg n 0 [] []).map whQ))])]).put 52 .junk):=by
        refine hK _ ?_
        repeat' (first | refine awp_seq ?_ | refine stp ?_ | refine blk_o (by decide) ?_ | (apply awp_condB;(focus (simp (disch:=(first | omega | (simp;omega))) only [go_sem,w64];try exact rfl));first | with_reducible refine condOf_t ?_ | with_reducible refine condOf_f ?_) | (refine awp_region' tyT_ok ?_;intro K hK) | (refine awp_drawA ?_;intro K hK) | (with_reducible refine hK _ ?_;clear hK K) | (refine stq ?_;simp (disch:=(first | omega | (simp;omega))) only [go_sem,w64]) | refine and_side ?_ | fail)
        (refine endA (r:=.d (.wh 1 ((chF A B Cc rows right sg n 0 [] []).map whQ))) ?_)
        exact ⟨rfl,rfl⟩
      clear hK
      generalize hlq:(fun s1:AS=>LStep _ _ _ s1 _)=LL
      refine aops_id ?_
      simp (disch:=(first | omega | (simp;omega))) only [go_sem,w64,tyF]
      rw [← hlq]
      refine lstep_choose (g6:=16) (g7:=22) (T6:=29) (T7:=39) hRO2 hsg (.inr (by decide)) rfl rfl ?_ ?_ ?_ ?_ ?_ ?_ ?_ ?_ ?_ ?_
      all_goals first
        | exact fin
        | (simp only [go_sem];done)
        | rfl
end Go.Proofs.Ytpbclpopoodklaa
