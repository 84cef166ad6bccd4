/- Lemmas for the proof of FnMinimum, part 48 of 52: no condition of their own. -/
import Derived.Test.YtalkhmgfnmaaaaaPK
import Derived.Test.YtalkhmgfnmaaaaaSD
import Derived.Test.YtalkhmgfnmaaaaaX5
namespace Go.Proofs.Ytalkhmgfnmaaaaa
set_option linter.unusedSimpArgs false
set_option linter.unusedVariables false
attribute [local go_sem ↓] reduceIte
attribute [local go_sem] Nat.reduceEqDiff Nat.reduceLT Nat.reduceAdd Nat.reduceLeDiff Nat.reduceMul Nat.reduceBEq Nat.reduceSub reduceCtorEq Int.reduceLE Int.reduceNeg Int.reduceLT
open Go.RowKit
abbrev P3 (z:Int):Prop:=-3≤z∧z≤3
abbrev Q3 (x:RatD):Prop:=P3 x.num∧P3 x.den
theorem q3_new:∀ n∈[(-3:Int),-2,-1,0,1,2,3],∀ d∈[(1:Int),2,3],Q3 (rq (newRat n d)):=by decide +kernel
theorem q3_newI {n d:Int} (h1:-3≤n) (h2:n≤3) (h3:1≤d) (h4:d≤3):Q3 (rq (newRat n d)):=by
  refine q3_new n ?_ d ?_
  · simp only [List.mem_cons,List.not_mem_nil,or_false];omega
  · simp only [List.mem_cons,List.not_mem_nil,or_false];omega
theorem l14OneA:AFn 41 [.ptr 0 0] [curL] (fun r os=>∃ x:RatD,Q3 x∧r=.d (ratDV x)∧os=[curL]):=by
  refine afn_of (rv:=[.cell 2 32]) tyT_ok Try.func41 rfl (by decide +kernel) Try.ntmps41 rfl (by simp) ?_
  repeat' (first | refine awp_seq ?_ | refine stp ?_ | refine blk_o (by decide) ?_ | (apply awp_condB;(focus (simp (disch:=(first | omega | (simp;omega))) only [go_sem,w64];try exact rfl));first | with_reducible refine condOf_t ?_ | with_reducible refine condOf_f ?_) | (refine awp_region' tyT_ok ?_;intro K hK) | (refine awp_drawA ?_;intro K hK) | (with_reducible refine hK _ ?_;clear hK K) | (refine stq ?_;simp (disch:=(first | omega | (simp;omega))) only [go_sem,w64]) | refine and_side ?_ | fail)
  (refine callL 1000000 (l1BelowA 4) ?_)
  rintro r os ⟨n,⟨h0,_,h1⟩,rfl,rfl⟩
  have h2:=h1 (by omega)
  refine ⟨by decide,?_⟩
  repeat' (first | refine awp_seq ?_ | refine stp ?_ | refine blk_o (by decide) ?_ | (apply awp_condB;(focus (simp (disch:=(first | omega | (simp;omega))) only [go_sem,w64];try exact rfl));first | with_reducible refine condOf_t ?_ | with_reducible refine condOf_f ?_) | (refine awp_region' tyT_ok ?_;intro K hK) | (refine awp_drawA ?_;intro K hK) | (with_reducible refine hK _ ?_;clear hK K) | (refine stq ?_;simp (disch:=(first | omega | (simp;omega))) only [go_sem,w64]) | refine and_side ?_ | fail)
  (refine callL 1000000 (l1PickIntM [1,1,2] (by simp)) ?_)
  rintro r os ⟨d,hd,rfl,rfl⟩
  simp only [List.mem_cons,List.not_mem_nil,or_false] at hd
  have hq:=q3_newI (n:=n) (d:=d) (by omega) (by omega) (by omega) (by omega)
  refine ⟨by decide,?_⟩
  have hn:=specNewA n d
  generalize newRat n d=t at *
  repeat' (first | refine awp_seq ?_ | refine stp ?_ | refine blk_o (by decide) ?_ | (apply awp_condB;(focus (simp (disch:=(first | omega | (simp;omega))) only [go_sem,w64];try exact rfl));first | with_reducible refine condOf_t ?_ | with_reducible refine condOf_f ?_) | (refine awp_region' tyT_ok ?_;intro K hK) | (refine awp_drawA ?_;intro K hK) | (with_reducible refine hK _ ?_;clear hK K) | (refine stq ?_;simp (disch:=(first | omega | (simp;omega))) only [go_sem,w64]) | refine and_side ?_ | fail)
  (first | refine callA (hn) ?_ | refine callD (hn) ?_ | refine callE (hn) ?_ | refine callF (hn) ?_ ?_)
  repeat' (first | refine awp_seq ?_ | refine stp ?_ | refine blk_o (by decide) ?_ | (apply awp_condB;(focus (simp (disch:=(first | omega | (simp;omega))) only [go_sem,w64,tupQ,ratDV];try exact rfl));first | with_reducible refine condOf_t ?_ | with_reducible refine condOf_f ?_) | (refine awp_region' tyT_ok ?_;intro K hK) | (refine awp_drawA ?_;intro K hK) | (with_reducible refine hK _ ?_;clear hK K) | (refine stq ?_;simp (disch:=(first | omega | (simp;omega))) only [go_sem,w64,tupQ,ratDV]) | refine and_side ?_ | fail)
  refine end1 0 (.inr rfl) (by simp (disch:=(first | omega | (simp;omega))) only [go_sem,w64];rfl) (by simp (disch:=(first | omega | (simp;omega))) only [go_sem,w64];rfl) (r:=.d (ratDV (rq t))) (by simp (disch:=(first | omega | (simp;omega))) only [go_sem,w64];exact .refl _) ?_
  exact ⟨_,hq,rfl,rfl⟩
theorem l13SmallA:AFn 42 [.ptr 0 0] [curL] (fun r os=>∃ x:RatD,Q3 x∧r=.d (ratDV x)∧os=[curL]):=by
  refine afn_of (rv:=[.cell 2 32]) tyT_ok Try.func42 rfl (by decide +kernel) Try.ntmps42 rfl (by simp) ?_
  repeat' (first | refine awp_seq ?_ | refine stp ?_ | refine blk_o (by decide) ?_ | (apply awp_condB;(focus (simp (disch:=(first | omega | (simp;omega))) only [go_sem,w64];try exact rfl));first | with_reducible refine condOf_t ?_ | with_reducible refine condOf_f ?_) | (refine awp_region' tyT_ok ?_;intro K hK) | (refine awp_drawA ?_;intro K hK) | (with_reducible refine hK _ ?_;clear hK K) | (refine stq ?_;simp (disch:=(first | omega | (simp;omega))) only [go_sem,w64]) | refine and_side ?_ | fail)
  (refine callL 1000000 (l1BelowA 7) ?_)
  rintro r os ⟨n,⟨h0,_,h1⟩,rfl,rfl⟩
  have h2:=h1 (by omega)
  have w1:IntKind.i64.wrap (n - 3)=n - 3:=w64 (by omega)
  refine ⟨by decide,?_⟩
  repeat' (first | refine awp_seq ?_ | refine stp ?_ | refine blk_o (by decide) ?_ | (apply awp_condB;(focus (simp (disch:=(first | omega | (simp;omega))) only [go_sem,w64,w1];try exact rfl));first | with_reducible refine condOf_t ?_ | with_reducible refine condOf_f ?_) | (refine awp_region' tyT_ok ?_;intro K hK) | (refine awp_drawA ?_;intro K hK) | (with_reducible refine hK _ ?_;clear hK K) | (refine stq ?_;simp (disch:=(first | omega | (simp;omega))) only [go_sem,w64,w1]) | refine and_side ?_ | fail)
  (refine callL 1000000 (l1PickIntM [1,1,1,2,3] (by simp)) ?_)
  rintro r os ⟨d,hd,rfl,rfl⟩
  simp only [List.mem_cons,List.not_mem_nil,or_false] at hd
  have hq:=q3_newI (n:=n - 3) (d:=d) (by omega) (by omega) (by omega) (by omega)
  refine ⟨by decide,?_⟩
  have hn:=specNewA (n - 3) d
  generalize newRat (n - 3) d=t at *
  repeat' (first | refine awp_seq ?_ | refine stp ?_ | refine blk_o (by decide) ?_ | (apply awp_condB;(focus (simp (disch:=(first | omega | (simp;omega))) only [go_sem,w64,w1];try exact rfl));first | with_reducible refine condOf_t ?_ | with_reducible refine condOf_f ?_) | (refine awp_region' tyT_ok ?_;intro K hK) | (refine awp_drawA ?_;intro K hK) | (with_reducible refine hK _ ?_;clear hK K) | (refine stq ?_;simp (disch:=(first | omega | (simp;omega))) only [go_sem,w64,w1]) | refine and_side ?_ | fail)
  (first | refine callA (hn) ?_ | refine callD (hn) ?_ | refine callE (hn) ?_ | refine callF (hn) ?_ ?_)
  repeat' (first | refine awp_seq ?_ | refine stp ?_ | refine blk_o (by decide) ?_ | (apply awp_condB;(focus (simp (disch:=(first | omega | (simp;omega))) only [go_sem,w64,tupQ,ratDV];try exact rfl));first | with_reducible refine condOf_t ?_ | with_reducible refine condOf_f ?_) | (refine awp_region' tyT_ok ?_;intro K hK) | (refine awp_drawA ?_;intro K hK) | (with_reducible refine hK _ ?_;clear hK K) | (refine stq ?_;simp (disch:=(first | omega | (simp;omega))) only [go_sem,w64,tupQ,ratDV]) | refine and_side ?_ | fail)
  refine end1 0 (.inr rfl) (by simp (disch:=(first | omega | (simp;omega))) only [go_sem,w64];rfl) (by simp (disch:=(first | omega | (simp;omega))) only [go_sem,w64];rfl) (r:=.d (ratDV (rq t))) (by simp (disch:=(first | omega | (simp;omega))) only [go_sem,w64];exact .refl _) ?_
  exact ⟨_,hq,rfl,rfl⟩
abbrev QsP (e:Pk) (l:List RatD):Prop:=∀ x∈l,e.P x.num∧e.P x.den
theorem csims_rats {e:Pk}:∀ {l:List RatD} {m:List DV},QsP e l→CSims e (l.map ratDV) m→∃ l':List RatD,m=l'.map ratDV∧l'.length=l.length∧QsP e l'
  | [],m,_,h=>by obtain rfl:=h;exact ⟨[],rfl,rfl,fun x hx=>(by cases hx)⟩
  | x :: l,m,hq,h=>by
    obtain ⟨_,m',rfl,⟨_,rfl,_,_,rfl,⟨z,rfl,hz⟩,_,_,rfl,⟨y,rfl,hy⟩,rfl⟩,h2⟩:=h
    obtain ⟨l',rfl,e1,h3⟩:=csims_rats (fun x hx=>hq x (List.mem_cons_of_mem _ hx)) h2
    have hx:=hq x (List.mem_cons_self ..)
    refine ⟨⟨z,y⟩ :: l',rfl,by simp [e1],fun v hv=>?_⟩
    rcases List.mem_cons.1 hv with rfl | hv
    · exact ⟨hz.elim (fun e=>e ▸ hx.1) id,hy.elim (fun e=>e ▸ hx.2) id⟩
    · exact h3 v hv
theorem csims_mat {e:Pk} (he:e.b=false) {n:Nat}:∀ {l:List (List RatD)} {m:List DV},(∀ r∈l,r.length=n∧QsP e r)→CSims e (l.map ratsD) m→∃ l':List (List RatD),m=l'.map ratsD∧l'.length=l.length∧∀ r∈l',r.length=n∧QsP e r
  | [],m,_,h=>by obtain rfl:=h;exact ⟨[],rfl,rfl,fun x hx=>(by cases hx)⟩
  | x :: l,m,hq,h=>by
    obtain ⟨_,m',rfl,⟨r,rfl,hr⟩,h2⟩:=h
    obtain ⟨l',rfl,e1,h3⟩:=csims_mat he (fun x hx=>hq x (List.mem_cons_of_mem _ hx)) h2
    have hx:=hq x (List.mem_cons_self ..)
    rcases hr with hr | ⟨h,_⟩
    · obtain ⟨r',rfl,e2,h4⟩:=csims_rats hx.2 hr
      refine ⟨r' :: l',rfl,by simp [e1],fun v hv=>?_⟩
      rcases List.mem_cons.1 hv with rfl | hv
      · exact ⟨e2.trans hx.1,h4⟩
      · exact h3 v hv
    · rw [he] at h;cases h
structure LpFit (A:List (List RatD)) (B C:List RatD):Prop where
  a:A.length≤3
  r:∀ r∈A,r.length≤3∧∀ x∈r,Q3 x
  b:B.length≤3
  bq:∀ x∈B,Q3 x
  c:C.length≤3
  cq:∀ x∈C,Q3 x
abbrev pk3:Pk:=⟨false,P3⟩
set_option maxHeartbeats 4000000 in
set_option maxRecDepth 100000 in
theorem l14LpA:AFn 22 [.ptr 0 0] [curL] (fun r os=>(∃ A B C,LpFit A B C∧r=.d (lpD A B C))∧os=[curL]):=by
  refine afn_ofC (rv:=[.cell 2 27]) tyT_ok Try.func22 rfl (by decide +kernel) Try.ntmps22 rfl (by simp) nod_args nod_cur ?_
  repeat' (first | refine awp_seq ?_ | refine stp ?_ | refine blk_o (by decide) ?_ | (apply awp_condB;(focus (simp (disch:=(first | omega | (simp;omega))) only [go_sem,w64];try exact rfl));first | with_reducible refine condOf_t ?_ | with_reducible refine condOf_f ?_) | (refine awp_region' tyT_ok ?_;intro K hK) | (refine awp_drawA ?_;intro K hK) | (with_reducible refine hK _ ?_;clear hK K) | (refine stq ?_;simp (disch:=(first | omega | (simp;omega))) only [go_sem,w64]) | refine and_side ?_ | fail)
  (refine callL 1000000 (l1BelowA 3) ?_)
  rintro r os ⟨n0,⟨hn0,_,hn1⟩,rfl,rfl⟩
  obtain ⟨n,rfl⟩:∃ n:Nat,n0=n:=⟨n0.toNat,by omega⟩
  have hn2:=hn1 (by omega)
  have w1:IntKind.i64.wrap (1+(n:Int))=((n+1:Nat):Int):=by rw [w64 (by omega)];omega
  refine ⟨by decide,?_⟩
  repeat' (first | refine awp_seq ?_ | refine stp ?_ | refine blk_o (by decide) ?_ | (apply awp_condB;(focus (simp (disch:=(first | omega | (simp;omega))) only [go_sem,w64,w1];try exact rfl));first | with_reducible refine condOf_t ?_ | with_reducible refine condOf_f ?_) | (refine awp_region' tyT_ok ?_;intro K hK) | (refine awp_drawA ?_;intro K hK) | (with_reducible refine hK _ ?_;clear hK K) | (refine stq ?_;simp (disch:=(first | omega | (simp;omega))) only [go_sem,w64,w1]) | refine and_side ?_ | fail)
  (refine callL 1000000 (l1BelowA 3) ?_)
  rintro r os ⟨m0,⟨hm0,_,hm1⟩,rfl,rfl⟩
  obtain ⟨m,rfl⟩:∃ m:Nat,m0=m:=⟨m0.toNat,by omega⟩
  have hm2:=hm1 (by omega)
  have w2:IntKind.i64.wrap (1+(m:Int))=((m+1:Nat):Int):=by rw [w64 (by omega)];omega
  refine ⟨by decide,?_⟩
  repeat' (first | refine awp_seq ?_ | refine stp ?_ | refine blk_o (by decide) ?_ | (apply awp_condB;(focus (simp (disch:=(first | omega | (simp;omega))) only [go_sem,w64,w2];try exact rfl));first | with_reducible refine condOf_t ?_ | with_reducible refine condOf_f ?_) | (refine awp_region' tyS_ok ?_;intro K hK) | (refine awp_drawA ?_;intro K hK) | (with_reducible refine hK _ ?_;clear hK K) | (refine stq ?_;simp (disch:=(first | omega | (simp;omega))) only [go_sem,w64,w2]) | refine and_side ?_ | fail)
  refine awp_weak (s':=mkS [(0,.ptr 1000000 0),(2,.ptr 2 0),(3,.d (.int ((n+1:Nat):Int))),(4,.d (.int ((m+1:Nat):Int))),(5,.ptr 5 0)] [(2,[.nil,.nil,.nil]),(5,[.nil,.nil,.nil]),(1000000,curL)]) (by exact sleA) ?_
  refine awp_nilbufO 5 0 33 25 1 (l:=[.nil,.nil,.nil]) (by simp (disch:=(first | omega | (simp;omega))) only [go_sem,w64]) rfl ?_
  refine awp_nilbufO 5 1 40 32 2 (l:=[.buf 33 25 1 [],.nil,.nil]) (by simp (disch:=(first | omega | (simp;omega))) only [go_sem,w64]) rfl ?_
  refine awp_nilbufO 5 2 52 32 2 (l:=[.buf 33 25 1 [],.buf 40 32 2 [],.nil]) (by simp (disch:=(first | omega | (simp;omega))) only [go_sem,w64]) rfl ?_
  refine awp_loopw (fun mm s=>∃ (A:List (List RatD)) (B:List RatD),mm=m+1 - A.length∧A.length≤m+1∧B.length=A.length∧(∀ r∈A,r.length=n+1∧QsP pk3 r)∧QsP pk3 B∧s=mkS [(0,.ptr 1000000 0),(2,.ptr 2 0),(3,.d (.int ((n+1:Nat):Int))),(4,.d (.int ((m+1:Nat):Int))),(5,.ptr 5 0)] [(2,[.nil,.nil,.nil]),(5,[.buf 33 25 1 (A.map ratsD),.buf 40 32 2 (B.map ratDV),.buf 52 32 2 []]),(1000000,curL)]) ?_ ?_
  · refine ⟨_,_,?_,[],[],rfl,Nat.zero_le _,rfl,fun r hr=>(by cases hr),fun r hr=>(by cases hr),rfl⟩
    exact sleA
  · rintro mm s ⟨A,B,rfl,hA,hB,hAq,hBq,rfl⟩
    have hAm:(A.map ratsD).length=A.length:=List.length_map ..
    have hBm:(B.map ratDV).length=B.length:=List.length_map ..
    repeat' (first | refine awp_seq ?_ | refine stp ?_ | refine blk_o (by decide) ?_ | (apply awp_condB;(focus (simp (disch:=(first | omega | (simp;omega))) only [go_sem,w64,hAm];try exact rfl));first | with_reducible refine condOf_t ?_ | with_reducible refine condOf_f ?_) | (refine awp_region' tyS_ok ?_;intro K hK) | (refine awp_drawA ?_;intro K hK) | (with_reducible refine hK _ ?_;clear hK K) | (refine stq ?_;simp (disch:=(first | omega | (simp;omega))) only [go_sem,w64,hAm]) | refine and_side ?_ | fail)
    refine awp_if (p:=(A.length:Int)<((m+1:Nat):Int)) (by simp (disch:=(first | omega | (simp;omega))) only [go_sem,w64,hAm]) ?_ ?_ <;> intro hc
    · repeat' (first | refine awp_seq ?_ | refine stp ?_ | refine blk_o (by decide) ?_ | (apply awp_condB;(focus (simp (disch:=(first | omega | (simp;omega))) only [go_sem,w64,hAm];try exact rfl));first | with_reducible refine condOf_t ?_ | with_reducible refine condOf_f ?_) | (refine awp_region' tyT_ok ?_;intro K hK) | (refine awp_drawA ?_;intro K hK) | (with_reducible refine hK _ ?_;clear hK K) | (refine stq ?_;simp (disch:=(first | omega | (simp;omega))) only [go_sem,w64,hAm]) | refine and_side ?_ | fail)
      refine awp_loopw (fun mm s=>∃ r:List RatD,mm=n+1 - r.length∧r.length≤n+1∧QsP pk3 r∧s=mkS [(0,.ptr 1000000 0),(2,.ptr 2 0),(3,.d (.int ((n+1:Nat):Int))),(4,.d (.int ((m+1:Nat):Int))),(5,.ptr 5 0),(6,.buf 19 32 2 (r.map ratDV))] [(2,[.nil,.nil,.nil]),(5,[.buf 33 25 1 (A.map ratsD),.buf 40 32 2 (B.map ratDV),.buf 52 32 2 []]),(1000000,curL)]) ?_ ?_
      · refine ⟨_,_,?_,[],rfl,Nat.zero_le _,fun r hr=>(by cases hr),rfl⟩
        exact sleA
      · rintro mm s ⟨r,rfl,hr,hrq,rfl⟩
        have hrm:(r.map ratDV).length=r.length:=List.length_map ..
        repeat' (first | refine awp_seq ?_ | refine stp ?_ | refine blk_o (by decide) ?_ | (apply awp_condB;(focus (simp (disch:=(first | omega | (simp;omega))) only [go_sem,w64,hrm];try exact rfl));first | with_reducible refine condOf_t ?_ | with_reducible refine condOf_f ?_) | (refine awp_region' tyT_ok ?_;intro K hK) | (refine awp_drawA ?_;intro K hK) | (with_reducible refine hK _ ?_;clear hK K) | (refine stq ?_;simp (disch:=(first | omega | (simp;omega))) only [go_sem,w64,hrm]) | refine and_side ?_ | fail)
        refine awp_if (p:=(r.length:Int)<((n+1:Nat):Int)) (by simp (disch:=(first | omega | (simp;omega))) only [go_sem,w64,hrm]) ?_ ?_ <;> intro hc2
        · repeat' (first | refine awp_seq ?_ | refine stp ?_ | refine blk_o (by decide) ?_ | (apply awp_condB;(focus (simp (disch:=(first | omega | (simp;omega))) only [go_sem,w64,hrm];try exact rfl));first | with_reducible refine condOf_t ?_ | with_reducible refine condOf_f ?_) | (refine awp_region' tyT_ok ?_;intro K hK) | (refine awp_drawA ?_;intro K hK) | (with_reducible refine hK _ ?_;clear hK K) | (refine stq ?_;simp (disch:=(first | omega | (simp;omega))) only [go_sem,w64,hrm]) | refine and_side ?_ | fail)
          (refine callL 1000000 (l14OneA) ?_)
          rintro rr os ⟨x,hx,rfl,rfl⟩
          refine ⟨by decide,?_⟩
          repeat' (first | refine awp_seq ?_ | refine stp ?_ | refine blk_o (by decide) ?_ | (apply awp_condB;(focus (simp (disch:=(first | omega | (simp;omega))) only [go_sem,w64,hrm,ratDV];try exact rfl));first | with_reducible refine condOf_t ?_ | with_reducible refine condOf_f ?_) | (refine awp_region' tyT_ok ?_;intro K hK) | (refine awp_drawA ?_;intro K hK) | (with_reducible refine hK _ ?_;clear hK K) | (refine stq ?_;simp (disch:=(first | omega | (simp;omega))) only [go_sem,w64,hrm,ratDV]) | refine and_side ?_ | fail)
          refine ⟨n+1 - (r.length+1),_,by omega,?_,r ++ [x],by simp,by simp;omega,?_,rfl⟩
          · rw [List.map_append]
            (refine sle_mk ?_ ?_ <;> simp (disch:=(first | omega | (simp;omega))) only [go_sem,w64,ratDV,List.map_cons,List.map_nil] <;> exact leafs)
          · intro y hy
            rcases List.mem_append.1 hy with hy | hy
            · exact hrq y hy
            · rw [List.mem_singleton] at hy;subst hy;exact hx
        · repeat' (first | refine awp_seq ?_ | refine stp ?_ | refine blk_o (by decide) ?_ | (apply awp_condB;(focus (simp (disch:=(first | omega | (simp;omega))) only [go_sem,w64,hrm,hAm,hBm];try exact rfl));first | with_reducible refine condOf_t ?_ | with_reducible refine condOf_f ?_) | (refine awp_region' tyT_ok ?_;intro K hK) | (refine awp_drawA ?_;intro K hK) | (with_reducible refine hK _ ?_;clear hK K) | (refine stq ?_;simp (disch:=(first | omega | (simp;omega))) only [go_sem,w64,hrm,hAm,hBm]) | refine and_side ?_ | fail)
          (refine callDL (j:=0) 1000000 (l14OneA) ?_ ?_)
          · exact ⟨_,_,⟨0,1⟩,by decide,rfl,rfl⟩
          rintro rr os ⟨x,hx,rfl,rfl⟩
          refine ⟨[],rfl,by decide,?_⟩
          repeat' (first | refine awp_seq ?_ | refine stp ?_ | refine blk_o (by decide) ?_ | (apply awp_condB;(focus (simp (disch:=(first | omega | (simp;omega))) only [go_sem,w64,hrm,hAm,hBm,ratDV];try exact rfl));first | with_reducible refine condOf_t ?_ | with_reducible refine condOf_f ?_) | (refine awp_region' tyT_ok ?_;intro K hK) | (refine awp_drawA ?_;intro K hK) | (with_reducible refine hK _ ?_;clear hK K) | (refine stq ?_;simp (disch:=(first | omega | (simp;omega))) only [go_sem,w64,hrm,hAm,hBm,ratDV]) | refine and_side ?_ | fail)
          have hrl:r.length=n+1:=by omega
          refine ⟨m+1 - (A.length+1),_,by omega,?_,A ++ [r],B ++ [x],by simp,by simp;omega,by simp [hB],?_,?_,rfl⟩
          · rw [List.map_append,List.map_append]
            (refine sle_mk ?_ ?_ <;> simp (disch:=(first | omega | (simp;omega))) only [go_sem,w64,ratDV,List.map_cons,List.map_nil] <;> exact leafs)
          · intro y hy
            rcases List.mem_append.1 hy with hy | hy
            · exact hAq y hy
            · rw [List.mem_singleton] at hy;subst hy;exact ⟨hrl,hrq⟩
          · intro y hy
            rcases List.mem_append.1 hy with hy | hy
            · exact hBq y hy
            · rw [List.mem_singleton] at hy;subst hy;exact hx
    · have hAl:A.length=m+1:=by omega
      repeat' (first | refine awp_seq ?_ | refine stp ?_ | refine blk_o (by decide) ?_ | (apply awp_condB;(focus (simp (disch:=(first | omega | (simp;omega))) only [go_sem,w64,hAm];try exact rfl));first | with_reducible refine condOf_t ?_ | with_reducible refine condOf_f ?_) | (with_reducible refine hK _ ?_;clear hK K) | (refine stq ?_;simp (disch:=(first | omega | (simp;omega))) only [go_sem,w64,hAm]) | refine and_side ?_ | fail)
      refine awp_weak (s':=mkS [(0,.ptr 1000000 0),(2,.ptr 2 0),(3,.d (.int ((n+1:Nat):Int))),(5,.ptr 5 0)] [(2,[.nil,.nil,.nil]),(5,[.buf 33 25 1 (A.map ratsD),.buf 40 32 2 (B.map ratDV),.buf 52 32 2 []]),(1000000,curL)]) (by exact sleA) ?_
      refine awp_loopw (fun mm s=>∃ C:List RatD,mm=n+1 - C.length∧C.length≤n+1∧QsP pk3 C∧s=mkS [(0,.ptr 1000000 0),(2,.ptr 2 0),(3,.d (.int ((n+1:Nat):Int))),(5,.ptr 5 0)] [(2,[.nil,.nil,.nil]),(5,[.buf 33 25 1 (A.map ratsD),.buf 40 32 2 (B.map ratDV),.buf 52 32 2 (C.map ratDV)]),(1000000,curL)]) ?_ ?_
      · refine ⟨_,_,?_,[],rfl,Nat.zero_le _,fun r hr=>(by cases hr),rfl⟩
        exact sleA
      · rintro mm s ⟨C,rfl,hC,hCq,rfl⟩
        have hCm:(C.map ratDV).length=C.length:=List.length_map ..
        repeat' (first | refine awp_seq ?_ | refine stp ?_ | refine blk_o (by decide) ?_ | (apply awp_condB;(focus (simp (disch:=(first | omega | (simp;omega))) only [go_sem,w64,hCm];try exact rfl));first | with_reducible refine condOf_t ?_ | with_reducible refine condOf_f ?_) | (refine awp_region' tyT_ok ?_;intro K hK) | (refine awp_drawA ?_;intro K hK) | (with_reducible refine hK _ ?_;clear hK K) | (refine stq ?_;simp (disch:=(first | omega | (simp;omega))) only [go_sem,w64,hCm]) | refine and_side ?_ | fail)
        refine awp_if (p:=(C.length:Int)<((n+1:Nat):Int)) (by simp (disch:=(first | omega | (simp;omega))) only [go_sem,w64,hCm]) ?_ ?_ <;> intro hc2
        · repeat' (first | refine awp_seq ?_ | refine stp ?_ | refine blk_o (by decide) ?_ | (apply awp_condB;(focus (simp (disch:=(first | omega | (simp;omega))) only [go_sem,w64,hCm];try exact rfl));first | with_reducible refine condOf_t ?_ | with_reducible refine condOf_f ?_) | (refine awp_region' tyT_ok ?_;intro K hK) | (refine awp_drawA ?_;intro K hK) | (with_reducible refine hK _ ?_;clear hK K) | (refine stq ?_;simp (disch:=(first | omega | (simp;omega))) only [go_sem,w64,hCm]) | refine and_side ?_ | fail)
          (refine callDL (j:=0) 1000000 (l14OneA) ?_ ?_)
          · exact ⟨_,_,⟨0,1⟩,by decide,rfl,rfl⟩
          rintro rr os ⟨x,hx,rfl,rfl⟩
          refine ⟨[],rfl,by decide,?_⟩
          repeat' (first | refine awp_seq ?_ | refine stp ?_ | refine blk_o (by decide) ?_ | (apply awp_condB;(focus (simp (disch:=(first | omega | (simp;omega))) only [go_sem,w64,hCm,ratDV];try exact rfl));first | with_reducible refine condOf_t ?_ | with_reducible refine condOf_f ?_) | (refine awp_region' tyT_ok ?_;intro K hK) | (refine awp_drawA ?_;intro K hK) | (with_reducible refine hK _ ?_;clear hK K) | (refine stq ?_;simp (disch:=(first | omega | (simp;omega))) only [go_sem,w64,hCm,ratDV]) | refine and_side ?_ | fail)
          refine ⟨n+1 - (C.length+1),_,by omega,?_,C ++ [x],by simp,by simp;omega,?_,rfl⟩
          · rw [List.map_append]
            (refine sle_mk ?_ ?_ <;> simp (disch:=(first | omega | (simp;omega))) only [go_sem,w64,ratDV,List.map_cons,List.map_nil] <;> exact leafs)
          · intro y hy
            rcases List.mem_append.1 hy with hy | hy
            · exact hCq y hy
            · rw [List.mem_singleton] at hy;subst hy;exact hx
        · have hCl:C.length=n+1:=by omega
          have fitA:∀ {A':List (List RatD)} {B' C':List RatD},A'.length=A.length→(∀ r∈A',r.length=n+1∧QsP pk3 r)→B'.length≤B.length→QsP pk3 B'→C'.length=C.length→QsP pk3 C'→LpFit A' B' C':=fun h1 h2 h3 h4 h5 h6=>⟨by omega,fun r hr=>⟨by have:=(h2 r hr).1;omega,(h2 r hr).2⟩,by omega,h4,by omega,h6⟩
          repeat' (first | refine awp_seq ?_ | refine stp ?_ | refine blk_o (by decide) ?_ | (apply awp_condB;(focus (simp (disch:=(first | omega | (simp;omega))) only [go_sem,w64];try exact rfl));first | with_reducible refine condOf_t ?_ | with_reducible refine condOf_f ?_) | (with_reducible refine hK _ ?_;clear hK K) | (refine stq ?_;simp (disch:=(first | omega | (simp;omega))) only [go_sem,w64]) | refine and_side ?_ | fail)
          refine awp_weak (s':=mkS [(0,.ptr 1000000 0),(2,.ptr 2 0),(5,.ptr 5 0)] [(2,[.nil,.nil,.nil]),(5,[.buf 33 25 1 (A.map ratsD),.buf 40 32 2 (B.map ratDV),.buf 52 32 2 (C.map ratDV)]),(1000000,curL)]) (by exact sleA) ?_
          repeat' (first | refine awp_seq ?_ | refine stp ?_ | refine blk_o (by decide) ?_ | (apply awp_condB;(focus (simp (disch:=(first | omega | (simp;omega))) only [go_sem,w64];try exact rfl));first | with_reducible refine condOf_t ?_ | with_reducible refine condOf_f ?_) | (refine awp_region' tyT_ok ?_;intro K hK) | (refine awp_drawA ?_;intro K hK) | (with_reducible refine hK _ ?_;clear hK K) | (refine stq ?_;simp (disch:=(first | omega | (simp;omega))) only [go_sem,w64]) | refine and_side ?_ | fail)
          (refine callL 1000000 (l1BelowA 12) ?_)
          rintro r os ⟨k,hk,rfl,rfl⟩
          refine ⟨by decide,?_⟩
          have hA0:0<A.length:=by omega
          have r0:(A.map ratsD).getD 0 (.bool false)=ratsD (mx A 0):=getDm hA0
          have hx0:(mx A 0).length=n+1:=(hAq _ (by simp [mx,hA0])).1
          have r1:((mx A 0).map ratDV).getD 0 (.bool false)=ratDV (qx (mx A 0) 0):=getDq (by omega)
          have r2:(B.map ratDV).getD 0 (.bool false)=ratDV (qx B 0):=getDq (by omega)
          have r3:(C.map ratDV).getD 0 (.bool false)=ratDV (qx C 0):=getDq (by omega)
          by_cases k0:k=0
          · have e0:k=0↔True:=iff_of_true k0 trivial
            repeat' (first | refine awp_seq ?_ | refine stp ?_ | refine blk_o (by decide) ?_ | (apply awp_condB;(focus (simp (disch:=(first | omega | (simp;omega))) only [go_sem,w64,e0];try exact rfl));first | with_reducible refine condOf_t ?_ | with_reducible refine condOf_f ?_) | (refine awp_region' tyT_ok ?_;intro K hK) | (with_reducible refine hK _ ?_;clear hK K) | (refine stq ?_;simp (disch:=(first | omega | (simp;omega))) only [go_sem,w64,e0]) | refine and_side ?_ | fail)
            refine awp_drawL (o:=?p40) tyT_ok (by kernel_rfl) 7 ?t1_0 ?t2_0 ?t3_0 ?t4_0 ?t5_0 ?t6_0
            case t2_0=>rfl
            case t1_0=>rfl
            case t3_0=>rfl
            case t4_0=>kernel_rfl
            case t5_0=>kernel_rfl
            intro K hK
            repeat' (first | refine awp_seq ?_ | refine stp ?_ | refine blk_o (by decide) ?_ | (apply awp_condB;(focus (simp (disch:=(first | omega | (simp;omega))) only [go_sem,w64,r0,r1,r2,r3,ratDV,Int.toNat_zero];try exact rfl));first | with_reducible refine condOf_t ?_ | with_reducible refine condOf_f ?_) | (with_reducible refine hK _ ?_;clear hK K) | (refine stq ?_;simp (disch:=(first | omega | (simp;omega))) only [go_sem,w64,r0,r1,r2,r3,ratDV,Int.toNat_zero]) | refine and_side ?_ | fail)
            (refine callDL (j:=0) 1000000 (l13SmallA) ?_ ?_)
            · exact ⟨_,_,⟨0,1⟩,by decide,rfl,rfl⟩
            rintro rr os ⟨x,hx,rfl,rfl⟩
            refine ⟨[],rfl,by decide,?_⟩
            repeat' (first | refine awp_seq ?_ | refine stp ?_ | refine blk_o (by decide) ?_ | (apply awp_condB;(focus (simp (disch:=(first | omega | (simp;omega))) only [go_sem,w64,r0,r1,r2,r3,ratDV,Int.toNat_zero];try exact rfl));first | with_reducible refine condOf_t ?_ | with_reducible refine condOf_f ?_) | (with_reducible refine hK _ ?_;clear hK K) | (refine stq ?_;simp (disch:=(first | omega | (simp;omega))) only [go_sem,w64,r0,r1,r2,r3,ratDV,Int.toNat_zero]) | refine and_side ?_ | fail)
            refine LStep.weak (s0:=mkS [(2,.ptr 2 0),(5,.ptr 5 0),(63,.d (ratDV x)),(64,.loc [.int (qx (mx A 0) 0).num,.int (qx (mx A 0) 0).den])] [(2,[.nil,.nil,.nil]),(5,[.buf 33 25 1 (A.map ratsD),.buf 40 32 2 (B.map ratDV),.buf 52 32 2 (C.map ratDV)]),(1000000,curL)]) (by (refine sle_mk ?_ ?_ <;> simp (disch:=(first | omega | (simp;omega))) only [go_sem,w64,r0,r1,r2,r3,ratDV] <;> exact leafs)) ?_
            refine lstep_poke tyT_ok pk3 (T:=32) (p:=.tmp 64) (x:=.tmp 63) (y:=ratDV x) rfl rfl rfl rfl rfl rfl rfl (by decide) (by exact Nat.le_refl 2) rfl ?hP ?_
            case hP =>
              intro z hz
              simp only [ratDV,dcells,List.mem_cons,List.not_mem_nil,or_false,DV.int.injEq] at hz
              rcases hz with rfl | rfl
              · exact hx.1
              · exact hx.2
            intro s' hs'
            obtain ⟨l2,ho2,_,_,rfl,rfl,_,_,rfl,rfl,_,_,rfl,rfl,rfl⟩:=ssim_ob 2 hs' rfl
            obtain ⟨l3,ho3,_,_,rfl,⟨ra,rfl,hra⟩,_,_,rfl,⟨rb,rfl,hrb⟩,_,_,rfl,⟨rc,rfl,hrc⟩,rfl⟩:=ssim_ob 5 hs' rfl
            obtain ⟨lc,hoc,hlc⟩:=ssim_ob 1000000 hs' rfl
            obtain ⟨A',rfl,ha1,ha2⟩:=csims_mat rfl hAq hra
            obtain ⟨B',rfl,hb1,hb2⟩:=csims_rats hBq hrb
            obtain ⟨C',rfl,hc1,hc2⟩:=csims_rats hCq hrc
            have t2:s'.tm 2=.ptr 2 0:=ssim_tm 2 hs' rfl
            have t3:s'.tm 5=.ptr 5 0:=ssim_tm 5 hs' rfl
            have hfit:=fitA ha1 ha2 (Nat.le_of_eq hb1) hb2 hc1 hc2
            refine hK _ ?_
            clear hK
            repeat' (first | refine awp_seq ?_ | refine stp ?_ | refine blk_o (by decide) ?_ | (apply awp_condB;(focus (simp (disch:=(first | omega | (simp;omega))) only [go_sem,w64];try exact rfl));first | with_reducible refine condOf_t ?_ | with_reducible refine condOf_f ?_) | (with_reducible refine hK _ ?_;clear hK K) | (refine stq ?_;simp (disch:=(first | omega | (simp;omega))) only [go_sem,w64]) | refine and_side ?_ | fail)
            refine awp_weak (s':=mkS [(2,.ptr 2 0),(5,.ptr 5 0)] [(2,[.nil,.nil,.nil]),(5,[.buf 33 25 1 (A'.map ratsD),.buf 40 32 2 (B'.map ratDV),.buf 52 32 2 (C'.map ratDV)]),(1000000,curL)]) (sle_mk ⟨t2 ▸ .refl _,t3 ▸ .refl _,trivial⟩ ⟨⟨_,ho2,ales_eq rfl⟩,⟨_,ho3,ales_eq rfl⟩,⟨_,hoc,cur_sim hlc⟩,trivial⟩) ?_
            repeat' (first | refine awp_seq ?_ | refine stp ?_ | refine blk_o (by decide) ?_ | (apply awp_condB;(focus (simp (disch:=(first | omega | (simp;omega))) only [go_sem,w64];try exact rfl));first | with_reducible refine condOf_t ?_ | with_reducible refine condOf_f ?_) | (refine awp_region' tyT_ok ?_;intro K hK) | (refine awp_drawA ?_;intro K hK) | (with_reducible refine hK _ ?_;clear hK K) | (refine stq ?_;simp (disch:=(first | omega | (simp;omega))) only [go_sem,w64]) | refine and_side ?_ | fail)
            refine end1 0 (.inr rfl) (by simp (disch:=(first | omega | (simp;omega))) only [go_sem,w64];rfl) (by simp (disch:=(first | omega | (simp;omega))) only [go_sem,w64];rfl) (r:=.d (lpD A' B' C')) (by simp (disch:=(first | omega | (simp;omega))) only [go_sem,w64,lpD];exact .refl _) ⟨⟨_,_,_,hfit,rfl⟩,rfl⟩
          have e0:k=0↔False:=iff_of_false k0 id
          by_cases k1:k=1
          · have e1:k=1↔True:=iff_of_true k1 trivial
            repeat' (first | refine awp_seq ?_ | refine stp ?_ | refine blk_o (by decide) ?_ | (apply awp_condB;(focus (simp (disch:=(first | omega | (simp;omega))) only [go_sem,w64,e0,e1];try exact rfl));first | with_reducible refine condOf_t ?_ | with_reducible refine condOf_f ?_) | (refine awp_region' tyT_ok ?_;intro K hK) | (with_reducible refine hK _ ?_;clear hK K) | (refine stq ?_;simp (disch:=(first | omega | (simp;omega))) only [go_sem,w64,e0,e1]) | refine and_side ?_ | fail)
            refine awp_drawL (o:=?p41) tyT_ok (by kernel_rfl) 5 ?t1_1 ?t2_1 ?t3_1 ?t4_1 ?t5_1 ?t6_1
            case t2_1=>rfl
            case t1_1=>rfl
            case t3_1=>rfl
            case t4_1=>kernel_rfl
            case t5_1=>kernel_rfl
            intro K hK
            repeat' (first | refine awp_seq ?_ | refine stp ?_ | refine blk_o (by decide) ?_ | (apply awp_condB;(focus (simp (disch:=(first | omega | (simp;omega))) only [go_sem,w64,r0,r1,r2,r3,ratDV,Int.toNat_zero];try exact rfl));first | with_reducible refine condOf_t ?_ | with_reducible refine condOf_f ?_) | (with_reducible refine hK _ ?_;clear hK K) | (refine stq ?_;simp (disch:=(first | omega | (simp;omega))) only [go_sem,w64,r0,r1,r2,r3,ratDV,Int.toNat_zero]) | refine and_side ?_ | fail)
            (refine callDL (j:=0) 1000000 (l13SmallA) ?_ ?_)
            · exact ⟨_,_,⟨0,1⟩,by decide,rfl,rfl⟩
            rintro rr os ⟨x,hx,rfl,rfl⟩
            refine ⟨[],rfl,by decide,?_⟩
            repeat' (first | refine awp_seq ?_ | refine stp ?_ | refine blk_o (by decide) ?_ | (apply awp_condB;(focus (simp (disch:=(first | omega | (simp;omega))) only [go_sem,w64,r0,r1,r2,r3,ratDV,Int.toNat_zero];try exact rfl));first | with_reducible refine condOf_t ?_ | with_reducible refine condOf_f ?_) | (with_reducible refine hK _ ?_;clear hK K) | (refine stq ?_;simp (disch:=(first | omega | (simp;omega))) only [go_sem,w64,r0,r1,r2,r3,ratDV,Int.toNat_zero]) | refine and_side ?_ | fail)
            refine LStep.weak (s0:=mkS [(2,.ptr 2 0),(5,.ptr 5 0),(70,.d (ratDV x)),(71,.loc [.int (qx C 0).num,.int (qx C 0).den])] [(2,[.nil,.nil,.nil]),(5,[.buf 33 25 1 (A.map ratsD),.buf 40 32 2 (B.map ratDV),.buf 52 32 2 (C.map ratDV)]),(1000000,curL)]) (by (refine sle_mk ?_ ?_ <;> simp (disch:=(first | omega | (simp;omega))) only [go_sem,w64,r0,r1,r2,r3,ratDV] <;> exact leafs)) ?_
            refine lstep_poke tyT_ok pk3 (T:=32) (p:=.tmp 71) (x:=.tmp 70) (y:=ratDV x) rfl rfl rfl rfl rfl rfl rfl (by decide) (by exact Nat.le_refl 2) rfl ?hP ?_
            case hP =>
              intro z hz
              simp only [ratDV,dcells,List.mem_cons,List.not_mem_nil,or_false,DV.int.injEq] at hz
              rcases hz with rfl | rfl
              · exact hx.1
              · exact hx.2
            intro s' hs'
            obtain ⟨l2,ho2,_,_,rfl,rfl,_,_,rfl,rfl,_,_,rfl,rfl,rfl⟩:=ssim_ob 2 hs' rfl
            obtain ⟨l3,ho3,_,_,rfl,⟨ra,rfl,hra⟩,_,_,rfl,⟨rb,rfl,hrb⟩,_,_,rfl,⟨rc,rfl,hrc⟩,rfl⟩:=ssim_ob 5 hs' rfl
            obtain ⟨lc,hoc,hlc⟩:=ssim_ob 1000000 hs' rfl
            obtain ⟨A',rfl,ha1,ha2⟩:=csims_mat rfl hAq hra
            obtain ⟨B',rfl,hb1,hb2⟩:=csims_rats hBq hrb
            obtain ⟨C',rfl,hc1,hc2⟩:=csims_rats hCq hrc
            have t2:s'.tm 2=.ptr 2 0:=ssim_tm 2 hs' rfl
            have t3:s'.tm 5=.ptr 5 0:=ssim_tm 5 hs' rfl
            have hfit:=fitA ha1 ha2 (Nat.le_of_eq hb1) hb2 hc1 hc2
            refine hK _ ?_
            clear hK
            repeat' (first | refine awp_seq ?_ | refine stp ?_ | refine blk_o (by decide) ?_ | (apply awp_condB;(focus (simp (disch:=(first | omega | (simp;omega))) only [go_sem,w64];try exact rfl));first | with_reducible refine condOf_t ?_ | with_reducible refine condOf_f ?_) | (with_reducible refine hK _ ?_;clear hK K) | (refine stq ?_;simp (disch:=(first | omega | (simp;omega))) only [go_sem,w64]) | refine and_side ?_ | fail)
            refine awp_weak (s':=mkS [(2,.ptr 2 0),(5,.ptr 5 0)] [(2,[.nil,.nil,.nil]),(5,[.buf 33 25 1 (A'.map ratsD),.buf 40 32 2 (B'.map ratDV),.buf 52 32 2 (C'.map ratDV)]),(1000000,curL)]) (sle_mk ⟨t2 ▸ .refl _,t3 ▸ .refl _,trivial⟩ ⟨⟨_,ho2,ales_eq rfl⟩,⟨_,ho3,ales_eq rfl⟩,⟨_,hoc,cur_sim hlc⟩,trivial⟩) ?_
            repeat' (first | refine awp_seq ?_ | refine stp ?_ | refine blk_o (by decide) ?_ | (apply awp_condB;(focus (simp (disch:=(first | omega | (simp;omega))) only [go_sem,w64];try exact rfl));first | with_reducible refine condOf_t ?_ | with_reducible refine condOf_f ?_) | (refine awp_region' tyT_ok ?_;intro K hK) | (refine awp_drawA ?_;intro K hK) | (with_reducible refine hK _ ?_;clear hK K) | (refine stq ?_;simp (disch:=(first | omega | (simp;omega))) only [go_sem,w64]) | refine and_side ?_ | fail)
            refine end1 0 (.inr rfl) (by simp (disch:=(first | omega | (simp;omega))) only [go_sem,w64];rfl) (by simp (disch:=(first | omega | (simp;omega))) only [go_sem,w64];rfl) (r:=.d (lpD A' B' C')) (by simp (disch:=(first | omega | (simp;omega))) only [go_sem,w64,lpD];exact .refl _) ⟨⟨_,_,_,hfit,rfl⟩,rfl⟩
          have e1:k=1↔False:=iff_of_false k1 id
          by_cases k2:k=2
          · have e2:k=2↔True:=iff_of_true k2 trivial
            have hfit:=fitA rfl hAq (show (B.drop 1).length≤B.length by rw [List.length_drop];omega) (fun x hx=>hBq x (List.mem_of_mem_drop hx)) rfl hCq
            have hbt:List.drop (Int.toNat 1) (List.take B.length (B.map ratDV))=(B.drop 1).map ratDV:=by rw [← hBm,List.take_length,List.map_drop];rfl
            repeat' (first | refine awp_seq ?_ | refine stp ?_ | refine blk_o (by decide) ?_ | (apply awp_condB;(focus (simp (disch:=(first | omega | (simp;omega))) only [go_sem,w64,e0,e1,e2,hBm];try exact rfl));first | with_reducible refine condOf_t ?_ | with_reducible refine condOf_f ?_) | (refine awp_region' tyT_ok ?_;intro K hK) | (refine awp_drawA ?_;intro K hK) | (with_reducible refine hK _ ?_;clear hK K) | (refine stq ?_;simp (disch:=(first | omega | (simp;omega))) only [go_sem,w64,e0,e1,e2,hBm]) | refine and_side ?_ | fail)
            refine end1 0 (.inr rfl) (by simp (disch:=(first | omega | (simp;omega))) only [go_sem,w64];rfl) (by simp (disch:=(first | omega | (simp;omega))) only [go_sem,w64];rfl) (r:=.d (lpD A (B.drop 1) C)) (by simp (disch:=(first | omega | (simp;omega))) only [go_sem,w64,lpD,matD,hbt];exact .refl _) ⟨⟨_,_,_,hfit,rfl⟩,rfl⟩
          have e2:k=2↔False:=iff_of_false k2 id
          by_cases k3:k=3
          · have e3:k=3↔True:=iff_of_true k3 trivial
            repeat' (first | refine awp_seq ?_ | refine stp ?_ | refine blk_o (by decide) ?_ | (apply awp_condB;(focus (simp (disch:=(first | omega | (simp;omega))) only [go_sem,w64,e0,e1,e2,e3];try exact rfl));first | with_reducible refine condOf_t ?_ | with_reducible refine condOf_f ?_) | (refine awp_region' tyT_ok ?_;intro K hK) | (with_reducible refine hK _ ?_;clear hK K) | (refine stq ?_;simp (disch:=(first | omega | (simp;omega))) only [go_sem,w64,e0,e1,e2,e3]) | refine and_side ?_ | fail)
            refine awp_drawL (o:=?p43) tyT_ok (by kernel_rfl) 5 ?t1_3 ?t2_3 ?t3_3 ?t4_3 ?t5_3 ?t6_3
            case t2_3=>rfl
            case t1_3=>rfl
            case t3_3=>rfl
            case t4_3=>kernel_rfl
            case t5_3=>kernel_rfl
            intro K hK
            repeat' (first | refine awp_seq ?_ | refine stp ?_ | refine blk_o (by decide) ?_ | (apply awp_condB;(focus (simp (disch:=(first | omega | (simp;omega))) only [go_sem,w64,r0,r1,r2,r3,ratDV,Int.toNat_zero];try exact rfl));first | with_reducible refine condOf_t ?_ | with_reducible refine condOf_f ?_) | (with_reducible refine hK _ ?_;clear hK K) | (refine stq ?_;simp (disch:=(first | omega | (simp;omega))) only [go_sem,w64,r0,r1,r2,r3,ratDV,Int.toNat_zero]) | refine and_side ?_ | fail)
            (refine callDL (j:=0) 1000000 (l13SmallA) ?_ ?_)
            · exact ⟨_,_,⟨0,1⟩,by decide,rfl,rfl⟩
            rintro rr os ⟨x,hx,rfl,rfl⟩
            refine ⟨[],rfl,by decide,?_⟩
            repeat' (first | refine awp_seq ?_ | refine stp ?_ | refine blk_o (by decide) ?_ | (apply awp_condB;(focus (simp (disch:=(first | omega | (simp;omega))) only [go_sem,w64,r0,r1,r2,r3,ratDV,Int.toNat_zero];try exact rfl));first | with_reducible refine condOf_t ?_ | with_reducible refine condOf_f ?_) | (with_reducible refine hK _ ?_;clear hK K) | (refine stq ?_;simp (disch:=(first | omega | (simp;omega))) only [go_sem,w64,r0,r1,r2,r3,ratDV,Int.toNat_zero]) | refine and_side ?_ | fail)
            refine LStep.weak (s0:=mkS [(2,.ptr 2 0),(5,.ptr 5 0),(83,.d (ratDV x)),(84,.loc [.int (qx B 0).num,.int (qx B 0).den])] [(2,[.nil,.nil,.nil]),(5,[.buf 33 25 1 (A.map ratsD),.buf 40 32 2 (B.map ratDV),.buf 52 32 2 (C.map ratDV)]),(1000000,curL)]) (by (refine sle_mk ?_ ?_ <;> simp (disch:=(first | omega | (simp;omega))) only [go_sem,w64,r0,r1,r2,r3,ratDV] <;> exact leafs)) ?_
            refine lstep_poke tyT_ok pk3 (T:=32) (p:=.tmp 84) (x:=.tmp 83) (y:=ratDV x) rfl rfl rfl rfl rfl rfl rfl (by decide) (by exact Nat.le_refl 2) rfl ?hP ?_
            case hP =>
              intro z hz
              simp only [ratDV,dcells,List.mem_cons,List.not_mem_nil,or_false,DV.int.injEq] at hz
              rcases hz with rfl | rfl
              · exact hx.1
              · exact hx.2
            intro s' hs'
            obtain ⟨l2,ho2,_,_,rfl,rfl,_,_,rfl,rfl,_,_,rfl,rfl,rfl⟩:=ssim_ob 2 hs' rfl
            obtain ⟨l3,ho3,_,_,rfl,⟨ra,rfl,hra⟩,_,_,rfl,⟨rb,rfl,hrb⟩,_,_,rfl,⟨rc,rfl,hrc⟩,rfl⟩:=ssim_ob 5 hs' rfl
            obtain ⟨lc,hoc,hlc⟩:=ssim_ob 1000000 hs' rfl
            obtain ⟨A',rfl,ha1,ha2⟩:=csims_mat rfl hAq hra
            obtain ⟨B',rfl,hb1,hb2⟩:=csims_rats hBq hrb
            obtain ⟨C',rfl,hc1,hc2⟩:=csims_rats hCq hrc
            have t2:s'.tm 2=.ptr 2 0:=ssim_tm 2 hs' rfl
            have t3:s'.tm 5=.ptr 5 0:=ssim_tm 5 hs' rfl
            have hfit:=fitA ha1 ha2 (Nat.le_of_eq hb1) hb2 hc1 hc2
            refine hK _ ?_
            clear hK
            repeat' (first | refine awp_seq ?_ | refine stp ?_ | refine blk_o (by decide) ?_ | (apply awp_condB;(focus (simp (disch:=(first | omega | (simp;omega))) only [go_sem,w64];try exact rfl));first | with_reducible refine condOf_t ?_ | with_reducible refine condOf_f ?_) | (with_reducible refine hK _ ?_;clear hK K) | (refine stq ?_;simp (disch:=(first | omega | (simp;omega))) only [go_sem,w64]) | refine and_side ?_ | fail)
            refine awp_weak (s':=mkS [(2,.ptr 2 0),(5,.ptr 5 0)] [(2,[.nil,.nil,.nil]),(5,[.buf 33 25 1 (A'.map ratsD),.buf 40 32 2 (B'.map ratDV),.buf 52 32 2 (C'.map ratDV)]),(1000000,curL)]) (sle_mk ⟨t2 ▸ .refl _,t3 ▸ .refl _,trivial⟩ ⟨⟨_,ho2,ales_eq rfl⟩,⟨_,ho3,ales_eq rfl⟩,⟨_,hoc,cur_sim hlc⟩,trivial⟩) ?_
            repeat' (first | refine awp_seq ?_ | refine stp ?_ | refine blk_o (by decide) ?_ | (apply awp_condB;(focus (simp (disch:=(first | omega | (simp;omega))) only [go_sem,w64];try exact rfl));first | with_reducible refine condOf_t ?_ | with_reducible refine condOf_f ?_) | (refine awp_region' tyT_ok ?_;intro K hK) | (refine awp_drawA ?_;intro K hK) | (with_reducible refine hK _ ?_;clear hK K) | (refine stq ?_;simp (disch:=(first | omega | (simp;omega))) only [go_sem,w64]) | refine and_side ?_ | fail)
            refine end1 0 (.inr rfl) (by simp (disch:=(first | omega | (simp;omega))) only [go_sem,w64];rfl) (by simp (disch:=(first | omega | (simp;omega))) only [go_sem,w64];rfl) (r:=.d (lpD A' B' C')) (by simp (disch:=(first | omega | (simp;omega))) only [go_sem,w64,lpD];exact .refl _) ⟨⟨_,_,_,hfit,rfl⟩,rfl⟩
          have e3:k=3↔False:=iff_of_false k3 id
          have hfit:=fitA rfl hAq (Nat.le_refl _) hBq rfl hCq
          repeat' (first | refine awp_seq ?_ | refine stp ?_ | refine blk_o (by decide) ?_ | (apply awp_condB;(focus (simp (disch:=(first | omega | (simp;omega))) only [go_sem,w64,e0,e1,e2,e3];try exact rfl));first | with_reducible refine condOf_t ?_ | with_reducible refine condOf_f ?_) | (refine awp_region' tyT_ok ?_;intro K hK) | (refine awp_drawA ?_;intro K hK) | (with_reducible refine hK _ ?_;clear hK K) | (refine stq ?_;simp (disch:=(first | omega | (simp;omega))) only [go_sem,w64,e0,e1,e2,e3]) | refine and_side ?_ | fail)
          refine end1 0 (.inr rfl) (by simp (disch:=(first | omega | (simp;omega))) only [go_sem,w64];rfl) (by simp (disch:=(first | omega | (simp;omega))) only [go_sem,w64];rfl) (r:=.d (lpD A B C)) (by simp (disch:=(first | omega | (simp;omega))) only [go_sem,w64,lpD];exact .refl _) ⟨⟨_,_,_,hfit,rfl⟩,rfl⟩
end Go.Proofs.Ytalkhmgfnmaaaaa
