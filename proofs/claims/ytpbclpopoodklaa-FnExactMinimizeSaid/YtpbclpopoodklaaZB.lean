/- Lemmas for the proof of FnExactMaximize, part 4 of 56: no condition of their own. -/
import Derived.Test.YtpbclpopoodklaaZA
namespace Go.Proofs.Ytpbclpopoodklaa
set_option linter.unusedSimpArgs false
set_option linter.unusedVariables false
open Go.RowKit
def flatV (l:List Value):List Value:=l.flatMap (·.cells.toList)
theorem fill_ok (size:Nat):∀ (l:List Value) (j:Nat) (cells:Array Value),(∀ v∈l,v.cells.size=size)→cells.size=(j+l.length)*size →
    ∃ r,Instr.fill (fun i=>some (i*size,size)) cells ((l.zipIdx j).map fun p=>(p.2,p.1))=some r∧r.toList=cells.toList.take (j*size) ++ flatV l
  | [],j,cells,_,h=>⟨cells,rfl,by
    rw [List.take_of_length_le (by simp at h;simp [h])];simp [flatV]⟩
  | v :: l,j,cells,hv,h=>by
    have h1:=hv v (List.mem_cons_self ..)
    simp only [List.length_cons] at h
    have hsz:cells.size=j*size+size+l.length*size:=by rw [h,Nat.add_mul,Nat.add_mul];omega
    have hf:=foldl_row (j*size) v.cells.toList 0 cells (by simp [h1];omega)
    have hA:(v.cells.zipIdx.foldl (fun cs (p:Value×Nat)=>cs.setIfInBounds (j*size+p.2) p.1) cells).toList=cells.toList.take (j*size) ++ (v.cells.toList ++ cells.toList.drop (j*size+size)):=by
      rw [← Array.foldl_toList]
      simpa [h1] using hf
    have hAs:(v.cells.zipIdx.foldl (fun cs (p:Value×Nat)=>cs.setIfInBounds (j*size+p.2) p.1) cells).size=(j+1+l.length)*size:=by
      have:=congrArg List.length hA
      simp only [Array.length_toList,List.length_append,List.length_take,List.length_drop] at this
      rw [this,h1,hsz,Nat.add_mul,Nat.add_mul];omega
    obtain ⟨r,hr,hr2⟩:=fill_ok size l (j+1) _ (fun u hu=>hv u (List.mem_cons_of_mem _ hu)) hAs
    refine ⟨r,?_,?_⟩
    · simp only [List.zipIdx_cons,List.map_cons,Instr.fill]
      have hc:¬ ((v.cells.size ≠ size || decide (j*size+v.cells.size > cells.size))=true):=by
        simp only [h1,ne_eq,not_true_eq_false,decide_false,Bool.false_or,decide_eq_true_eq];omega
      rw [if_neg hc]
      exact hr
    · rw [hr2,hA]
      have e1:(cells.toList.take (j*size) ++ (v.cells.toList ++ cells.toList.drop (j*size+size))).take ((j+1)*size)=cells.toList.take (j*size) ++ v.cells.toList:=by
        rw [← List.append_assoc,List.take_append_of_le_length (by simp [h1,Nat.add_mul];omega),List.take_of_length_le (by simp [h1,Nat.add_mul];omega)]
      rw [e1]
      simp [flatV]
theorem run_buildSlice {t e:TypeId} {i:TyI} (hu:Try.prog.underlying t=some (.slice e)) (hi:TyOK e i) (l:List Value) (hv:∀ v∈l,v.cells.size=i.size) (hb:l.length*i.size≤16777216) (w:World) :
    (Instr.buildSlice t l.length ((l.zipIdx 0).map fun p=>(p.2,p.1)).toArray).run Try.prog w=.ok (.slice (some ⟨w.heap.size,0,none⟩) l.length l.length) (w.alloc (.cells (flatV l).toArray e)):=by
  obtain ⟨f,z,h1,h2,h3,h4,h5,h6⟩:=hi.info
  have key:∀ zs:Array Value,∃ r,Instr.fill (fun q=>some (q*i.size,i.size)) ((Array.range (l.length*i.size)).map (zs[· % zs.size]!)) ((l.zipIdx 0).map fun p=>(p.2,p.1))=some r∧r=(flatV l).toArray:=fun zs=>by
    obtain ⟨r,hr,hr2⟩:=fill_ok i.size l 0 ((Array.range (l.length*i.size)).map (zs[· % zs.size]!)) hv (by simp)
    refine ⟨r,hr,?_⟩
    apply Array.toList_inj.1
    simpa using hr2
  have hb':¬ (l.length*i.size > 2 ^ 24):=by omega
  unfold Instr.buildSlice
  simp only [Sem.run_bind,run_underlying hu,Result.andThen_ok,run_sizeOf hi,hb',if_false]
  by_cases hz:l.length*i.size=0
  · obtain ⟨r,hr,rfl⟩:=key #[]
    simp only [hz,if_true,Sem.run_pure,Result.andThen_ok]
    rw [hz] at hr
    have e0:∀ g:Nat→Value,(Array.range 0).map g = #[]:=fun g=>Array.eq_empty_of_size_eq_zero (by simp)
    simp only [e0] at hr
    simp only [e0,hr]
    simp [newRow]
  · obtain ⟨r,hr,rfl⟩:=key z.cells
    simp only [hz,if_false,Sem.run_bind,zeroValue,run_typeInfo h1,h3,Result.andThen_ok,Sem.run_pure]
    rw [hr]
    simp [newRow]
theorem elemOf {t e:TypeId} {i:TyI} (hu:Try.prog.underlying t=some (.slice e)) (hi:TyOK e i) (hp:0<i.size):∃ b,ElemF t e i.size b:=by
  obtain ⟨f,z,h1,h2,h3,h4,h5,h6⟩:=hi.info
  exact ⟨f.bytes,hu,⟨f,z,h1,h3,h2,rfl,h6⟩,h4,hp⟩
theorem run_append_cells {t e k bytes:Nat} (ht:ElemF t e k bytes) {lo hi:Nat} {w:World} (ty:TypeId) (base:Nat) (a1:Option Addr) (n1 c1:Nat) (vs:List Value) (hown:OwnF e k base w a1 n1 c1 vs)
    (ao:Option Addr) (m c:Nat) (us:List Value) (hI:FlatA k lo hi w ao m c us) (hb:n1+m≤16777216) (hbase:base≤w.heap.size) :
    ∃ a' c' w',(Builtin.append_ #[t,t] ty #[.slice a1 n1 c1,.slice ao m c]).run Try.prog w=.ok (.slice a' (n1+m) c') w'∧OwnF e k base w' a' (n1+m) c' (vs ++ us)∧w.grownBy w' (Value.slice a1 n1 c1).ownBlock ∧
      (∀ b,a'=some ⟨b,0,none⟩→w.heap.size≤b∨(Value.slice a1 n1 c1).ownBlock=some b∧c'=c1)∧(∀ b i,(Value.slice a1 n1 c1).ownBlock=some b→i<n1*k∨c1*k≤i→w'.cell? ⟨b,i,none⟩=w.cell? ⟨b,i,none⟩)∧(∀ b i,(Value.slice a1 n1 c1).ownBlock=some b→w'.frozen? ⟨b,i,none⟩=false):=by
  have hfo:∀ b i,(Value.slice a1 n1 c1).ownBlock=some b→w.frozen? ⟨b,i,none⟩=false:=fun b i hb'=>by
    rcases hown.1.2 with ⟨hv,_⟩ | ⟨g,cap,cur,hv,_⟩
    · rw [hv] at hb';cases hb'
    · simp only [Value.slice.injEq] at hv
      obtain ⟨rfl,_,_⟩:=hv
      simp only [Value.ownBlock,Option.some.injEq] at hb'
      subst hb'
      exact hown.free i
  obtain ⟨a',c',w',hr,h2,h3⟩:=run_append_flat ht ty base a1 n1 c1 vs hown ao m c us hI hb hbase
  refine ⟨a',c',w',hr,h2,h3,?_⟩
  obtain ⟨i0,z,hi0,hz0,hz1,hz2,hz3⟩:=ht.info
  have hlen:=hI.len
  cases ao with
  | none =>
    have hc0:=hI.2.2.2.2.2 rfl
    have hm0:m=0:=by have:=hI.2.1;omega
    subst hc0;subst hm0
    have hr2:=run_append_owned_none (P:=Try.prog) (w:=w) base t ty e i0 k ht.under hi0 _ n1 _ hown.1
    rw [hr2] at hr
    simp only [Result.ok.injEq,Value.slice.injEq] at hr
    obtain ⟨⟨rfl,_,rfl⟩,rfl⟩:=hr
    exact ⟨fun b hb'=>.inr ⟨by rw [hb'];rfl,rfl⟩,fun _ _ _ _=>rfl,hfo⟩
  | some ad =>
    have hnews:∀ j u,us[j]? = some u→w.cell? (ad.add j)=some u:=fun j u hj=>by
      have hjm:j<m*k:=by have:=(List.getElem?_eq_some_iff.1 hj).1;omega
      have hm0:0<m:=by
        rcases Nat.eq_zero_or_pos m with h | h
        · subst h;simp at hjm
        · exact h
      obtain ⟨b,off,hab,_,_,hcell⟩:=hI.open hm0
      obtain rfl:ad=⟨b,off,none⟩:=by simpa using hab
      rw [Addr.add_lit];exact hcell j u hj
    have hbig:(n1+m)*i0.bytes≤140737488355328:=by
      have h1:=ht.small
      have h4:(n1+m)*bytes≤16777216*4096:=Nat.mul_le_mul hb h1
      rw [hz2];omega
    rcases hown.1.2 with ⟨hv,hn0⟩ | ⟨g,cap,cur,hv,hbg,hg,hnc,hcm,hcs,htake⟩
    · simp only [Value.slice.injEq] at hv
      obtain ⟨rfl,rfl,rfl⟩:=hv
      refine ⟨fun b hb'=>.inl ?_,fun b i hb'=>(by cases hb'),fun b i hb'=>(by cases hb')⟩
      have hvs:vs=[]:=List.eq_nil_of_length_eq_zero (by simpa using hown.len)
      subst hvs
      have hown2:OwnF e k w.heap.size w none 0 0 []:=ownF_nil _ _ _ _
      obtain ⟨a2,c2,w2,hr2,g2,g3⟩:=run_append_flat ht ty w.heap.size none 0 0 [] hown2 (some ad) m c us hI hb (Nat.le_refl _)
      rw [hr] at hr2
      simp only [Result.ok.injEq,Value.slice.injEq] at hr2
      obtain ⟨⟨rfl,_,rfl⟩,rfl⟩:=hr2
      subst hb'
      exact (g2.1.lt b rfl).1
    · simp only [Value.slice.injEq] at hv
      obtain ⟨rfl,_,rfl⟩:=hv
      subst hz1
      by_cases hroom:n1+m≤c1
      · have hfit:n1*i0.size+us.length≤cur.size:=by rw [hlen,hcs,← Nat.add_mul];exact Nat.mul_le_mul_right _ hroom
        have hr2:=run_append_room (P:=Try.prog) w t ty e i0 ht.under hi0 g n1 c1 cur hg ad m c us hlen hnews hI.2.2.2.1 hroom hfit
        rw [hr2] at hr
        simp only [Result.ok.injEq,Value.slice.injEq] at hr
        obtain ⟨⟨rfl,_,rfl⟩,rfl⟩:=hr
        refine ⟨fun b hb'=>.inr ?_,fun b i hb' hi=>?_,fun b i hb'=>by simp only [Value.ownBlock,Option.some.injEq] at hb';subst hb';exact h2.free i⟩
        · simp only [Option.some.injEq,Addr.mk.injEq,and_true] at hb'
          subst hb';exact ⟨rfl,rfl⟩
        · simp only [Value.ownBlock,Option.some.injEq] at hb'
          subst hb'
          have h5:=setRow_heap w g cur (cur.toList.take (n1*i0.size) ++ us ++ cur.toList.drop (n1*i0.size+us.length)).toArray e _ hg
          simp only [World.cell?,h5,hg]
          simp only [Option.isSome_none,Bool.false_eq_true,if_false]
          rw [← Array.getElem?_toList,← Array.getElem?_toList]
          simp only [List.append_assoc]
          rcases hi with hi | hi
          · have hic:i<cur.toList.length:=by simp;omega
            rw [List.getElem?_append_left (by simp;omega),List.getElem?_take_of_lt hi]
          · rw [List.getElem?_eq_none (by simp only [List.length_append,List.length_take,List.length_drop,Array.length_toList];omega),List.getElem?_eq_none (by simp;omega)]
      · have holds:∀ j u,vs[j]? = some u→w.cell? ((⟨g,0,none⟩:Addr).add j)=some u:=hown.1.cells (g:=g) rfl
        have hr2:=run_append_grow (P:=Try.prog) w t ty e i0 z ht.under hi0 hz0 ⟨g,0,none⟩ n1 c1 vs hown.len holds ad m c us hlen hnews (by omega) (by omega) (growslice_fits (by omega) hbig)
        rw [hr2] at hr
        simp only [Result.ok.injEq,Value.slice.injEq] at hr
        obtain ⟨⟨rfl,_,rfl⟩,rfl⟩:=hr
        refine ⟨fun b hb'=>.inl ?_,fun b i hb' hi=>?_,fun b i hb'=>by
          have hz:=hfo b i hb'
          simp only [Value.ownBlock,Option.some.injEq] at hb'
          subst hb'
          rw [World.frozen?_of_block (w:=w) (Below.heap_alloc w.drew _ g (Array.getElem?_eq_some_iff.1 hg).1)]
          exact hz⟩
        · simp only [Option.some.injEq,Addr.mk.injEq,and_true] at hb'
          omega
        · simp only [Value.ownBlock,Option.some.injEq] at hb'
          subst hb'
          have hlt:=(Array.getElem?_eq_some_iff.1 hg).1
          exact World.cell?_of_block (w:=w) (Below.heap_alloc w.drew _ g hlt)
section
variable {X:Cx} {G:Gh} {s:AS} {a:Act} {w:World} {K:AS→Prop} {o:Oper} {ty:TypeId→Option TyI}
theorem dv_cells {y:DV} {v:Value} (h:CV G w (.d y) v):CX G.C w y v.cells.toList:=by
  obtain ⟨us,h1,h2⟩:=h
  rcases h2 with ⟨⟨m,rfl⟩,rfl⟩ | ⟨h2,rfl⟩
  · exact h1
  · have:=CX.one y _ h1 v (by simp)
    have e:v.cells = #[v]:=by cases v <;> first | rfl | cases this
    rw [e];exact h1
def idxOK:List (Nat×Operand)→Nat→Bool
  | [],_=>true
  | p :: l,j=>p.1 == j && idxOK l (j+1)
def elemsOK (k:Nat) (l:List DV):Bool:=l.all fun y=>leaves (dcells y) && (dcells y).length == k
theorem idx_map (ρ:Operand→Value):∀ (l:List (Nat×Operand)) (j:Nat),idxOK l j=true→l.map (fun p=>(p.1,ρ p.2))=(((l.map (fun p=>ρ p.2)).zipIdx j).map fun p=>(p.2,p.1))
  | [],j,_=>rfl
  | p :: l,j,h=>by
    simp only [idxOK,Bool.and_eq_true,beq_iff_eq] at h
    simp [idx_map ρ l (j+1) h.2,h.1]
theorem elems_ok {b:Bool} {k:Nat}:∀ {l:List AV} {m:List DV} {vs:List Value},toDVs b l=some m→elemsOK k m=true→CVs G w l vs→CXk G.C w k m (flatV vs)∧∀ v∈vs,v.cells.size=k
  | [],m,vs,h,_,hv=>by cases h;obtain rfl:=hv;exact ⟨rfl,fun v hv=>(by cases hv)⟩
  | x :: l,m,vs,h,he,hv=>by
    unfold toDVs at h
    split at h
    · rename_i y m' e1 e2
      cases h
      obtain ⟨v,us',rfl,h2,h3⟩:=hv
      simp only [elemsOK,List.all_cons,Bool.and_eq_true,beq_iff_eq] at he
      obtain ⟨g1,g2⟩:=elems_ok (k:=k) e2 he.2 h3
      have hc:=dv_cells (toDV_ok e1 h2)
      have hl:=(dcells_ok he.1.1 hc).len
      have hk:v.cells.toList.length=k:=by rw [hl,he.1.2];omega
      exact ⟨⟨v.cells.toList,flatV us',by simp [flatV],hc,hk,g1⟩,fun u hu=>by
        rcases List.mem_cons.1 hu with rfl | hu
        · simpa using hk
        · exact g2 u hu⟩
    · cases h
def AS.newB (s:AS) (g:Nat):AS:=s.scr (fun g'=>!(g' == g)) (fun _=>true)
def sBuildSlice (ty:TypeId→Option TyI) (N:Nat) (s:AS) (dst:Option Nat) (T:TypeId) (len:Nat) (parts:Array (Nat×Operand)) (K:AS→Prop):Prop:=match dst,(ty T).bind (·.kd) with
  | some d,some (.slice e)=>(match ty e with
    | some i=>(idxOK parts.toList 0=true∧parts.toList.length=len∧len*i.size≤16777216∧0<i.size)∧match toDVs i.wh (evs N s (parts.toList.map (·.2))) with
      | some m=>elemsOK i.size m=true∧K ((s.newB d).put d (.buf d e i.size m))
      | none=>False
    | none=>False)
  | _,_=>False
theorem snd_buildSlice {T:TypeId} {len:Nat} {parts:Array (Nat×Operand)} (ht:TabOK ty) (h:RelG X G s a w) (ho:o.op=.buildSlice T len parts) (hs:sBuildSlice ty X.N s o.dst T len parts K):Snd o X a w K:=by
  unfold sBuildSlice at hs
  split at hs
  · rename_i d e hd he
    split at hs
    · rename_i i hi
      obtain ⟨⟨h1,h2,h3,hpos⟩,hs⟩:=hs
      split at hs
      · rename_i m hm
        obtain ⟨h4,hs⟩:=hs
        have hev:=h.evs (parts.toList.map (·.2))
        obtain ⟨g1,g2⟩:=elems_ok hm h4 hev
        have hml:m.length=len:=by
          have q1:=g1.len
          have:∀ {l:List AV} {m:List DV},toDVs i.wh l=some m→m.length=l.length:=by
            intro l
            induction l with
            | nil=>intro m h;cases h;rfl
            | cons x l ih =>
              intro m h
              unfold toDVs at h
              split at h
              · rename_i y m' e1 e2;cases h;simp [ih e2]
              · cases h
          rw [this hm]
          have hl:∀ l:List Operand,(evs X.N s l).length=l.length:=fun l=>by induction l with
            | nil=>rfl
            | cons x l ih=>simp [evs,ih]
          rw [hl];simpa using h2
        obtain ⟨vals,hvals⟩:∃ vals,(parts.toList.map (·.2)).map a.eval=vals:=⟨_,rfl⟩
        rw [hvals] at g1 g2
        have hvl:vals.length=len:=by rw [← hvals];simpa using h2
        have hr:=run_buildSlice (ht.kd he) (ht e i hi) vals g2 (by rw [hvl];exact h3) w
        have hmap:(parts.map fun p=>(p.1,a.eval p.2))=((vals.zipIdx 0).map fun p=>(p.2,p.1)).toArray:=by
          apply Array.toList_inj.1
          simp only [Array.toList_map]
          rw [idx_map a.eval _ 0 h1,← hvals]
          simp [Function.comp_def]
        have h1c:∀ u∈flatV vals,u.oneCell'=true:=CXk.one _ _ g1
        have hfl:(flatV vals).length=len*i.size:=by rw [g1.len,hml]
        have hnewb:(w.alloc (.cells (flatV vals).toArray e)).heap[w.heap.size]? = some (.cells (flatV vals).toArray e (0,0)):=heap_alloc_new w _
        have hlm:len≤maxLen:=by have:=Nat.le_mul_of_pos_right len hpos;unfold maxLen;omega
        have hownN:OwnF e i.size X.w0.heap.size (w.alloc (.cells (flatV vals).toArray e)) (some ⟨w.heap.size,0,none⟩) len len (flatV vals) :=
          ⟨⟨hfl,.inr ⟨w.heap.size,len,(flatV vals).toArray,rfl,h.fr.size,hnewb,Nat.le_refl _,hlm,by simpa using hfl,by rw [List.take_of_length_le (by simp [hfl])]⟩⟩,h1c⟩
        have hset:=h.setBuf (w':=w.alloc (.cells (flatV vals).toArray e)) (g:=d) (T:=e) (k:=i.size) (World.grownBy_alloc w _ _)
          (fun b j _ hc=>World.cell?_of_block (w:=w) (Below.heap_alloc _ _ _ (h.cs b j hc))) (fun b j hb' hc=>by rw [World.frozen?_of_block (w:=w) (Below.heap_alloc _ _ _ (h.cs b j hc))];obtain ⟨a9,n9,c9,vs9,q1,q2,q3⟩:=h.bf d;exact h.uf b j hc (q2.1.lt b (by rw [← q1];exact hb')).1) hownN (fun b hb=>.inl (by simp only [Option.some.injEq,Addr.mk.injEq,and_true] at hb;omega))
          (fun b j=>b=w.heap.size∧(j<len*i.size∨len*i.size≤j)) (fun b j hb=>⟨by rw [hb.1],hb.2⟩) (fun b j hb hj=>⟨by simp only [Option.some.injEq,Addr.mk.injEq,and_true] at hb;exact hb.symm,.inr hj⟩)
        refine snd_valw (x:=.buf d e i.size m) (v:=.slice (some ⟨w.heap.size,0,none⟩) len len) hset ?_ ?_ (by rw [hd];exact hs)
        · simp only [execOp,ho,Sem.run_bind,hmap]
          rw [hvl] at hr
          simp only [hr,Result.andThen_ok,Sem.run_pure]
        · refine ⟨by simp,by simp,by simp,some ⟨w.heap.size,0,none⟩,len,len,flatV vals,rfl,hml,CXk.stay (fun b j hc=>⟨.inl hc,World.cell?_of_block (w:=w) (Below.heap_alloc _ _ _ (h.cs b j hc))⟩) _ _ _ g1,⟨hfl,Nat.le_refl _,hlm,fun e=>(by cases e),h1c,fun _=>⟨_,0,rfl,fun j u hu=>⟨.inr ⟨rfl,by omega⟩,(by simp only [World.cell?,hnewb];simpa using hu)⟩⟩⟩,fun _=>⟨_,rfl,len*i.size,fun j hj=>.inr ⟨rfl,.inr hj⟩⟩⟩
      · exact hs.elim
    · exact hs.elim
  · exact hs.elim
def addA (k:Nat):AV→Option (List DV)
  | .nil=>some []
  | .d (.sl k' l)=>if k'=k then some l else none
  | .d (.wh k' l)=>if k'=k then some l else none
  | .d .nl=>some []
  | .buf _ _ k' l=>if k'=k then some l else none
  | _=>none
theorem addA_ok {k:Nat} {x:AV} {l:List DV} {v:Value} (h:addA k x=some l) (hv:CV G w x v):CX G.C w (.sl k l) [v]:=by
  cases x with
  | nil=>cases h;simp only [CV] at hv;subst hv;exact cx_nil _ _ _
  | d y =>
    cases y with
    | sl k' l' =>
      simp only [addA] at h
      split at h
      · rename_i e;cases h;subst e;exact cvSl.1 hv
      · cases h
    | nl=>cases h;rw [cvNl.1 hv];exact cx_nil _ _ _
    | wh k' l' =>
      simp only [addA] at h
      split at h
      · rename_i e;cases h;subst e;exact wh_sl (cvWh.1 hv)
      · cases h
    | _=>cases h
  | buf g T k' l' =>
    simp only [addA] at h
    split at h
    · rename_i e;cases h;subst e;exact wh_sl hv.2.2.2
    · cases h
  | _=>cases h
theorem FlatS.flat {C:Nat→Nat→Prop} {ad:Option Addr} {n c k:Nat} {vs:List Value} (h:FlatS C w ad n c k vs) (hC:∀ b i,C b i→b<w.heap.size) (hk:0<k):FlatA k 0 w.heap.size w ad n c vs:=by
  obtain ⟨h1,h2,h3,h4,h5,h6⟩:=h
  refine ⟨h1,h2,h3,h5,fun hn=>?_,h4⟩
  obtain ⟨b,off,ha,hc⟩:=h6 hn
  have hpos:0<vs.length:=by rw [h1];exact Nat.mul_pos hn hk
  have h0:=hc 0 vs[0] (by simp [hpos])
  exact ⟨b,off,ha,Nat.zero_le _,hC _ _ h0.1,fun i u hu=>(hc i u hu).2⟩
def sAppend (ty:TypeId→Option TyI) (N:Nat) (s:AS) (dst:Option Nat) (T T':TypeId) (x y:Operand) (K:AS→Prop):Prop:=match dst,(ty T).bind (·.kd) with
  | some d,some (.slice e)=>(match ty e with
    | some i=>(T'=T∧0<i.size)∧match addA i.size (ev N s y) with
      | some l'=>(match ev N s x with
        | .buf g Te k l=>(Te=e∧k=i.size)∧l.length+l'.length≤16777216∧K ((s.newB g).put d (.buf g e i.size (l ++ l')))
        | .nil=>l'.length≤16777216∧K ((s.newB d).put d (.buf d e i.size l'))
        | _=>False)
      | none=>False
    | none=>False)
  | _,_=>False
theorem same_cells {C:Nat→Nat→Prop} {e k base:Nat} {ad:Option Addr} {n c:Nat} {us vs:List Value} (h:OwnF e k base w ad n c us) (h':FlatS C w ad n c k vs):us=vs:=by
  obtain ⟨f1,f2,f3,f4,f5,f6⟩:=h.flat
  obtain ⟨q1,q2,q3,q4,q6,q5⟩:=h'
  by_cases hn:0<n
  · obtain ⟨b,off,e1,_,_,e2⟩:=f5 hn
    obtain ⟨b',off',e3,e4⟩:=q5 hn
    rw [e1] at e3
    simp only [Option.some.injEq,Addr.mk.injEq,and_true] at e3
    obtain ⟨rfl,rfl⟩:=e3
    apply List.ext_getElem?
    intro j
    by_cases hj:j<n*k
    · have a1:=e2 j us[j] (by simp [f1,hj])
      have a2:=(e4 j vs[j] (by simp [q1,hj])).2
      rw [a1] at a2
      have hju:j<us.length:=by omega
      have hjv:j<vs.length:=by omega
      simp only [List.getElem?_eq_getElem hju,List.getElem?_eq_getElem hjv]
      exact a2
    · rw [List.getElem?_eq_none (by omega),List.getElem?_eq_none (by omega)]
  · obtain rfl:n=0:=by omega
    rw [List.eq_nil_of_length_eq_zero (by omega:us.length=0),List.eq_nil_of_length_eq_zero (by omega:vs.length=0)]
theorem RelG.appended {g:Nat} {T e:TypeId} {i:TyI} {b0:Nat} {a1:Option Addr} {n1 c1:Nat} {vs us:List Value} {ao:Option Addr} {m c:Nat} {l l':List DV} (h:RelG X G s a w) (hE:ElemF T e i.size b0)
    (hown:OwnF e i.size X.w0.heap.size w a1 n1 c1 vs) (hl:CXk G.C w i.size l vs) (hl1:l.length=n1) (hC:∀ b,a1=some ⟨b,0,none⟩→∀ j,G.C b j→j<n1*i.size∨c1*i.size≤j)
    (hg:(Value.slice a1 n1 c1).ownBlock=(G.hd g).ownBlock∨a1=none) (hl':CXk G.C w i.size l' us) (hm:l'.length=m) (hf:FlatS G.C w ao m c i.size us) (hb:n1+m≤16777216) (ty':TypeId) :
    ∃ v G' w',(Builtin.append_ #[T,T] ty' #[.slice a1 n1 c1,.slice ao m c]).run Try.prog w=.ok v w'∧RelG X G' (s.newB g) a w'∧CV G' w' (.buf g e i.size (l ++ l')) v:=by
  have hFA:=hf.flat h.cs hE.pos
  obtain ⟨a',c',w',hr,h2,h3,h4,h5,h6⟩:=run_append_cells hE ty' X.w0.heap.size a1 n1 c1 vs hown ao m c us hFA hb h.fr.size
  have hg3:w.grownBy w' (G.hd g).ownBlock:=by
    rcases hg with e1 | e1
    · rw [← e1];exact h3
    · subst e1
      exact ⟨h3.os,h3.tape,h3.output,h3.size,fun k hk _=>h3.block k hk (by simp [Value.ownBlock])⟩
  have hcell:∀ b j,(G.hd g).ownBlock=some b→G.C b j→w'.cell? ⟨b,j,none⟩=w.cell? ⟨b,j,none⟩:=fun b j hb' hc=>by
    rcases hg with e1 | e1
    · rw [← e1] at hb'
      refine h5 b j hb' (hC b ?_ j hc)
      rcases hown.1.2 with ⟨q1,_⟩ | ⟨g0,cap,cur,q1,_⟩
      · rw [q1] at hb';cases hb'
      · simp only [Value.slice.injEq] at q1
        rw [q1.1] at hb' ⊢
        simp only [Value.ownBlock,Option.some.injEq] at hb'
        rw [hb']
    · subst e1
      exact World.cell?_of_block (w:=w) (h3.block b (h.cs b j hc) (by simp [Value.ownBlock]))
  have hblk:∀ b,a'=some ⟨b,0,none⟩→w.heap.size≤b∨(G.hd g).ownBlock=some b∧∀ j,G.C b j→j<(n1+m)*i.size∨c'*i.size≤j:=fun b hb'=>by
    rcases h4 b hb' with q | ⟨q,qc⟩
    · exact .inl q
    · right
      subst qc
      have hab:a1=some ⟨b,0,none⟩:=by
        rcases hown.1.2 with ⟨q1,_⟩ | ⟨g0,cap,cur,q1,_⟩
        · rw [q1] at q;cases q
        · simp only [Value.slice.injEq] at q1
          rw [q1.1] at q ⊢
          simp only [Value.ownBlock,Option.some.injEq] at q
          rw [q]
      refine ⟨?_,fun j hc=>?_⟩
      · rcases hg with e1 | e1
        · rw [← e1];exact q
        · rw [e1] at hab;cases hab
      · have:=hC b hab j hc
        rw [Nat.add_mul];omega
  have hfz:∀ b j,(G.hd g).ownBlock=some b→G.C b j→w'.frozen? ⟨b,j,none⟩=false:=fun b j hb' hc=>by
    rcases hg with e1 | e1
    · rw [← e1] at hb'
      exact h6 b j hb'
    · subst e1
      rw [World.frozen?_of_block (w:=w) (h3.block b (h.cs b j hc) (by simp [Value.ownBlock]))]
      obtain ⟨a9,n9,c9,vs9,q1,q2,q3⟩:=h.bf g
      exact h.uf b j hc (q2.1.lt b (by rw [← q1];exact hb')).1
  have hset:=h.setBuf (w':=w') (g:=g) (T:=e) (k:=i.size) hg3 hcell hfz h2 hblk (fun b j=>a'=some ⟨b,0,none⟩∧(j<(n1+m)*i.size∨c'*i.size≤j)) (fun b j hb'=>hb') (fun b j hb' hj=>⟨hb',.inr hj⟩)
  refine ⟨_,_,w',hr,hset,by simp,by simp,by simp,a',n1+m,c',vs ++ us,rfl,by simp [hl1,hm],?_,?_,?_⟩
  · have hst:Stay G.C (fun b j=>G.C b j∨a'=some ⟨b,0,none⟩∧(j<(n1+m)*i.size∨c'*i.size≤j)) w w':=fun b j hc=>⟨.inl hc,by
      by_cases q:(G.hd g).ownBlock=some b
      · exact hcell b j q hc
      · exact World.cell?_of_block (w:=w) (hg3.block b (h.cs b j hc) (fun q2=>q q2.symm))⟩
    exact CXk.app (CXk.stay hst _ _ _ hl') (CXk.stay hst _ _ _ hl)
  · have hfl:=h2.flat
    obtain ⟨f1,f2,f3,f4,f5,f6⟩:=hfl
    refine ⟨f1,f2,f3,f6,f4,fun hn=>?_⟩
    obtain ⟨b,off,q1,_,_,q4⟩:=f5 hn
    obtain ⟨g0,q5,_,_⟩:=h2.head hn
    rw [q5] at q1
    simp only [Option.some.injEq,Addr.mk.injEq,and_true] at q1
    obtain ⟨rfl,rfl⟩:=q1
    refine ⟨g0,0,q5,fun j u hu=>⟨.inr ⟨q5,.inl ?_⟩,q4 j u hu⟩⟩
    have:=(List.getElem?_eq_some_iff.1 hu).1
    omega
  · intro hn
    obtain ⟨g0,q5,_,_⟩:=h2.head hn
    exact ⟨g0,q5,c'*i.size,fun j hj=>.inr ⟨q5,.inr hj⟩⟩
theorem snd_append {T T':TypeId} {x y:Operand} {c:Call} (ht:TabOK ty) (h:RelG X G s a w) (ho:o.op=.call c) (hc:c = { callee:=.builtin .append,args:=#[x,y],argTypes:=#[T,T'] }) (hs:sAppend ty X.N s o.dst T T' x y K):Snd o X a w K:=by
  subst hc
  have hx:=h.ev x
  have hy:=h.ev y
  unfold sAppend at hs
  split at hs
  · rename_i d e hd he
    split at hs
    · rename_i i hi
      obtain ⟨⟨rfl,hpos⟩,hs⟩:=hs
      obtain ⟨b0,hE⟩:=elemOf (ht.kd he) (ht e i hi) hpos
      split at hs
      · rename_i l' hl'
        obtain ⟨ao,c,us,e1,g1,g2⟩:=cx_sl (addA_ok hl' hy)
        split at hs
        · rename_i g Te k l hl
          obtain ⟨⟨rfl,rfl⟩,h1,hs⟩:=hs
          rw [hl] at hx
          obtain ⟨q1,q2,q3,q4⟩:=hx
          obtain ⟨a1,c1,vs,e2,g3,g4⟩:=cx_sl (wh_sl q4)
          obtain ⟨a2,n2,c2,vs2,e3,g5,g6⟩:=h.bf g
          rw [← q1,e2] at e3
          simp only [Value.slice.injEq] at e3
          obtain ⟨rfl,rfl,rfl⟩:=e3
          rw [q2,q3] at g5
          rw [q3] at g6
          obtain rfl:vs2=vs:=same_cells g5 g4
          obtain ⟨v,G',w',hr,hR,hv⟩:=h.appended (g:=g) hE g5 g3 rfl (fun b hb j=>(g6 b hb j).1) (.inl (by rw [← q1,e2])) g1 rfl g2 (by omega) o.type
          refine snd_valw hR ?_ hv (by rw [hd];exact hs)
          simp [execOp,ho,resolve,invoke,builtin,e2,e1,hr]
        · rename_i hl
          obtain ⟨h1,hs⟩:=hs
          rw [hl] at hx
          simp only [CV] at hx
          obtain ⟨v,G',w',hr,hR,hv⟩:=h.appended (g:=d) (l:=[]) hE (ownF_nil e i.size w X.w0.heap.size) rfl rfl (fun b hb=>by cases hb) (.inr rfl) g1 rfl g2 (by omega) o.type
          refine snd_valw hR ?_ (by simpa using hv) (by rw [hd];exact hs)
          simp [execOp,ho,resolve,invoke,builtin,hx,e1,hr]
        · exact hs.elim
      · exact hs.elim
    · exact hs.elim
  · exact hs.elim
theorem CXk.dropk {C:Nat→Nat→Prop} {w:World} {k:Nat}:∀ (j:Nat) {m:List DV} {us:List Value},CXk C w k m us→CXk C w k (m.drop j) (us.drop (j*k))
  | 0,m,us,h=>by simpa using h
  | j+1,[],us,h=>by obtain rfl:=h;simp [CXk]
  | j+1,x :: m,us,h=>by
    obtain ⟨u,v,rfl,h2,h4,h3⟩:=h
    have e:(u ++ v).drop ((j+1)*k)=v.drop (j*k):=by
      rw [List.drop_append,List.drop_eq_nil_of_le (by rw [h4,Nat.add_mul];omega),List.nil_append,h4]
      congr 1
      rw [Nat.add_mul];omega
    rw [e,List.drop_succ_cons]
    exact CXk.dropk j h3
theorem CXk.takek {C:Nat→Nat→Prop} {w:World} {k:Nat}:∀ (j:Nat) {m:List DV} {us:List Value},CXk C w k m us→CXk C w k (m.take j) (us.take (j*k))
  | 0,m,us,h=>by simp [CXk]
  | j+1,[],us,h=>by obtain rfl:=h;simp [CXk]
  | j+1,x :: m,us,h=>by
    obtain ⟨u,v,rfl,h2,h4,h3⟩:=h
    have e:(u ++ v).take ((j+1)*k)=u ++ v.take (j*k):=by
      rw [List.take_append,List.take_of_length_le (by rw [h4,Nat.add_mul];omega),h4]
      congr 2
      rw [Nat.add_mul];omega
    rw [e,List.take_succ_cons]
    exact ⟨u,v.take (j*k),rfl,h2,h4,CXk.takek j h3⟩
theorem run_sl {T e:TypeId} {i:TyI} (hu:Try.prog.underlying T=some (.slice e)) (hi:TyOK e i) {ad:Option Addr} {n c:Nat} {lo hi':Option Value} {a b:Int} (hlo:lo=none∧a=0∨lo=some (.int .i64 a)) (hhi:hi'=none∧b=n∨hi'=some (.int .i64 b)) (h0:0≤a) (h1:a≤b) (h2:b≤n) (hnc:n≤c) (w:World) :
    (Instr.sliceAt T (.slice ad n c) lo hi' none).run Try.prog w=.ok (sliced ad a.toNat b.toNat c i.size) w:=by
  have he:Try.prog.elem T=e:=by simp [Program.elem,hu]
  have hu':Try.prog.underlying T=some (.slice (Try.prog.elem T)):=by rw [he];exact hu
  rw [run_sliceAt_slice w T _ _ _ _ hu']
  rcases hlo with ⟨rfl,rfl⟩ | rfl <;> rcases hhi with ⟨rfl,rfl⟩ | rfl
  · rw [run_slice_all w T ad n c hu',he,run_sizeOf hi];simp [Result.andThen]
  · rw [run_slice_h w T ad n c hu' _ _ (by omega) (by omega),he,run_sizeOf hi];simp [Result.andThen]
  · rw [run_slice_l w T ad n c hu' _ _ (by omega) (by omega),he,run_sizeOf hi];simp [Result.andThen]
  · rw [run_slice_lh w T ad n c hu' _ _ _ _ (by omega) (by omega) (by omega),he,run_sizeOf hi];simp [Result.andThen]
theorem run_slS {T:TypeId} (hu:Try.prog.underlying T=some .string) {b:ByteArray} {lo hi':Option Value} {p q:Int} (hlo:lo=none∧p=0∨lo=some (.int .i64 p)) (hhi:hi'=none∧q=(b.size:Nat)∨hi'=some (.int .i64 q)) (h0:0≤p) (h1:p≤q) (h2:q≤(b.size:Nat)) (w:World) :
    (Instr.sliceAt T (.string b) lo hi' none).run Try.prog w=.ok (.string (b.extract p.toNat q.toNat)) w:=by
  rw [run_sliceAt_string w T _ _ _ _ hu]
  rcases hlo with ⟨rfl,rfl⟩ | rfl <;> rcases hhi with ⟨rfl,rfl⟩ | rfl
  · rw [run_slice_string_all w T b hu];simp
  · rw [run_slice_string_h w T b hu _ _ (by omega) (by omega)];simp
  · rw [run_slice_string_l w T b hu _ _ (by omega) (by omega)];simp
  · rw [run_slice_string w T b _ _ _ _ hu (by omega) (by omega) (by omega)]
def bAt (b:ByteArray) (j:Nat):Int:=((b.data[j]?).getD 0).toNat
theorem bAt_rng (b:ByteArray) (j:Nat):0≤bAt b j∧bAt b j≤255:=by
  unfold bAt
  have:=((b.data[j]?).getD 0).toNat_lt
  omega
def bndA (N:Nat) (s:AS) (o:Option Operand) (dflt:Int):Option Int:=match o with
  | none=>some dflt
  | some x=>match ev N s x with
    | .d (.int n)=>some n
    | _=>none
def sSlc (s:AS) (dst:Option Nat) (k:Nat) (l:List DV) (K:AS→Prop):Option Int→Option Int→Prop
  | some a,some b=>(0≤a∧a≤b∧b≤(l.length:Nat)∧0<k)∧K (s.putD dst (.d (.sl k ((l.take b.toNat).drop a.toNat))))
  | _,_=>False
def sSlcS (s:AS) (dst:Option Nat) (b:ByteArray) (K:AS→Prop):Option Int→Option Int→Prop
  | some p,some q=>(0≤p∧p≤q∧q≤(b.size:Nat))∧K (s.putD dst (.d (.str (b.extract p.toNat q.toNat))))
  | _,_=>False
def sSlcB (N:Nat) (s:AS) (dst:Option Nat) (lo hi:Option Operand) (K:AS→Prop):AV→Prop
  | .d (.str b)=>sSlcS s dst b K (bndA N s lo 0) (bndA N s hi b.size)
  | _=>False
def sSlice (ty:TypeId→Option TyI) (N:Nat) (s:AS) (dst:Option Nat) (T:TypeId) (x:Operand) (lo hi mx:Option Operand) (K:AS→Prop):Prop:=match (ty T).bind (·.kd),mx with
  | some (.slice e),none=>(match ty e with
    | some i=>(match addA i.size (ev N s x) with
      | some l=>sSlc s dst i.size l K (bndA N s lo 0) (bndA N s hi l.length)
      | none=>False)
    | none=>False)
  | some .string,none=>sSlcB N s dst lo hi K (ev N s x)
  | _,_=>False
theorem bndA_ok {X:Cx} {G:Gh} {s:AS} {a:Act} {w:World} (h:RelG X G s a w) {o:Option Operand} {d n:Int} (hb:bndA X.N s o d=some n):o.map a.eval=none∧n=d∨o.map a.eval=some (.int .i64 n):=by
  unfold bndA at hb
  split at hb
  · cases hb;exact .inl ⟨rfl,rfl⟩
  · rename_i x
    split at hb
    · rename_i m hm
      cases hb
      have:=h.ev x
      rw [hm] at this
      exact .inr (by rw [Option.map_some,(cvInt.1 this).1])
    · cases hb
theorem snd_slice {X:Cx} {G:Gh} {s:AS} {a:Act} {w:World} {K:AS→Prop} {o:Oper} {ty:TypeId→Option TyI} {T:TypeId} {x:Operand} {lo hi mx:Option Operand} (ht:TabOK ty) (h:RelG X G s a w) (ho:o.op=.slice T x lo hi mx) (hs:sSlice ty X.N s o.dst T x lo hi mx K):Snd o X a w K:=by
  unfold sSlice at hs
  split at hs
  · rename_i e h1
    split at hs
    · rename_i i hi'
      split at hs
      · rename_i l hl
        unfold sSlc at hs
        split at hs
        · rename_i p q hp hq
          obtain ⟨⟨g0,g1,g2,g3⟩,hK⟩:=hs
          obtain ⟨ad,n,c,vs,ev',e2,e3,e4⟩:=addA_ok hl (h.ev x)
          simp only [List.cons.injEq,and_true] at ev'
          subst e2
          have hrun:=run_sl (ht.kd h1) (ht e i hi') (bndA_ok h hp) (bndA_ok h hq) g0 g1 g2 e4.2.1 w (ad:=ad)
          have hlen:=e3.len
          refine snd_val h (x:=.d (.sl i.size ((l.take q.toNat).drop p.toNat))) (v:=sliced ad p.toNat q.toNat c i.size) (by simp [execOp,ho,ev',hrun]) (cvSl.2 ?_) hK
          refine ⟨_,_,_,((vs.take (q.toNat*i.size)).drop (p.toNat*i.size)),rfl,?_,CXk.dropk _ (CXk.takek _ e3),?_,?_,?_,?_,?_,?_⟩
          · simp only [List.length_drop,List.length_take];omega
          · simp only [List.length_drop,List.length_take,hlen]
            rw [Nat.min_eq_left (Nat.mul_le_mul_right _ (by omega)),← Nat.sub_mul]
          · have:=e4.2.1;omega
          · have:=e4.2.2.1;omega
          · intro hn
            split at hn
            · rename_i e5;omega
            · cases ad with
              | none=>have:=e4.2.2.2.1 rfl;omega
              | some z=>simp at hn
          · intro u hu
            exact e4.2.2.2.2.1 u (List.mem_of_mem_take (List.mem_of_mem_drop hu))
          · intro hn
            have hc:=e4.2.1
            obtain ⟨b,off,rfl,hcell⟩:=e4.2.2.2.2.2 (by omega)
            refine ⟨b,off+p.toNat*i.size,?_,fun j u hu=>?_⟩
            · rw [if_neg (by omega)];simp [Addr.add]
            · rw [List.getElem?_drop] at hu
              have hlt:p.toNat*i.size+j<q.toNat*i.size:=by
                have:=(List.getElem?_eq_some_iff.1 hu).1
                simp only [List.length_take] at this
                omega
              rw [List.getElem?_take_of_lt hlt] at hu
              have:=hcell _ u hu
              rw [Nat.add_assoc];exact this
        · exact hs.elim
      · exact hs.elim
    · exact hs.elim
  · rename_i h1
    unfold sSlcB at hs
    split at hs
    · rename_i b hb
      have hx:=h.ev x
      rw [hb] at hx
      have hx':=cvStr.1 hx
      unfold sSlcS at hs
      split at hs
      · rename_i p q hp hq
        obtain ⟨⟨g0,g1,g2⟩,hK⟩:=hs
        have hrun:=run_slS (ht.kd h1) (bndA_ok h hp) (bndA_ok h hq) g0 g1 g2 w
        exact snd_val h (v:=.string (b.extract p.toNat q.toNat)) (by simp [execOp,ho,hx',hrun]) (cvStr.2 rfl) hK
      · exact hs.elim
    · exact hs.elim
  · exact hs.elim
def sIndex (ty:TypeId→Option TyI) (N:Nat) (s:AS) (dst:Option Nat) (T:TypeId) (x ix:Operand) (K:AS→Prop):Prop:=match (ty T).bind (·.kd),ev N s x,ev N s ix with
  | some .string,.d (.str b),.d (.int j)=>(0≤j∧j<(b.size:Nat))∧K (s.putD dst (.d (.byte (bAt b j.toNat))))
  | _,_,_=>False
theorem snd_index {X:Cx} {G:Gh} {s:AS} {a:Act} {w:World} {K:AS→Prop} {o:Oper} {ty:TypeId→Option TyI} {T:TypeId} {x ix:Operand} (ht:TabOK ty) (h:RelG X G s a w) (ho:o.op=.index T x ix) (hs:sIndex ty X.N s o.dst T x ix K):Snd o X a w K:=by
  unfold sIndex at hs
  split at hs
  · rename_i b j h1 hb hj
    obtain ⟨⟨g0,g1⟩,hK⟩:=hs
    have hx:=h.ev x
    have hi:=h.ev ix
    rw [hb] at hx
    rw [hj] at hi
    have hk:j.toNat<b.size:=by omega
    refine snd_val h (v:=.int .u8 (bAt b j.toNat)) ?_ (cvByte.2 ⟨rfl,bAt_rng b _⟩) hK
    have:=run_index_string (P:=Try.prog) (w:=w) T b .i64 j (ht.kd h1)
    rw [dif_pos ⟨g0,by omega⟩] at this
    have e:((b[j.toNat]'hk).toNat:Int)=bAt b j.toNat:=by
      unfold bAt
      rw [show b.data[j.toNat]? = some (b[j.toNat]'hk) from by rw [Array.getElem?_eq_getElem (by simpa using hk)];rfl]
      rfl
    simp [execOp,ho,cvStr.1 hx,(cvInt.1 hi).1,this,e]
  · exact hs.elim
def sMkF (N:Nat) (s:AS) (dst:Option Nat) (fn:Fn) (first caps:List Operand) (K:AS→Prop):Prop:=match fn,first with
  | .func f,[]=>K (s.putD dst (.fn f (evs N s caps)))
  | _,_=>False
theorem snd_mkF {X:Cx} {G:Gh} {s:AS} {a:Act} {w:World} {K:AS→Prop} {o:Oper} {fn:Fn} {first caps:Array Operand} (h:RelG X G s a w) (ho:o.op=.makeFunc fn first caps) (hs:sMkF X.N s o.dst fn first.toList caps.toList K):Snd o X a w K:=by
  unfold sMkF at hs
  split at hs
  · rename_i f hf
    have hfe:first = #[]:=Array.toList_inj.1 hf
    refine snd_val h (x:=.fn f (evs X.N s caps.toList)) (v:=.func (.func f) #[] (caps.map a.eval)) (by simp [execOp,ho,Instr.makeFunc,hfe]) ⟨caps.toList.map a.eval,?_,h.evs _⟩ hs
    rw [← Array.toList_map,Array.toArray_toList]
  · exact hs.elim
end
def Lent (G:Gh) (n:Nat) (b:Nat):Prop:=∃ i,i<n∧G.ad i=b
structure PostC (n:Nat) (G:Gh) (w:World) (R:AV→List (List AV)→Prop) (v:Value) (w':World) (r:AV) (os':List (List AV)) (G':Gh):Prop where
  post:R r os'
  res:CV G' w' r v
  fr:Fr (Lent G n) w w'
  st:Stay G.C G'.C w w'
  le:n≤os'.length
  ob:∀ (i:Nat) (l:List AV),os'[i]? = some l→ObOK G' w' i l
  adl:∀ i,i<n→G'.ad i=G.ad i
  adn:∀ i,n≤i→i<os'.length→w.heap.size≤G'.ad i
  d2:∀ i j,i<os'.length→j<os'.length→G'.ad i=G'.ad j→i=j
  cs:∀ b i,G'.C b i→b<w'.heap.size
  lc:∀ b i,G'.C b i→b<w.heap.size→G.C b i
  bf:∀ g,BufOK G' w.heap.size w' g
  d1:∀ g h,g ≠ h→(G'.hd g).ownBlock=(G'.hd h).ownBlock→(G'.hd g).ownBlock=none
  d3:∀ o g,o<os'.length→(G'.hd g).ownBlock ≠ some (G'.ad o)
  uf:∀ b i,G'.C b i→w.heap.size≤b→w'.frozen? ⟨b,i,none⟩=false
def FnOK (f:FuncId):Prop:=∃ fn:Func,Try.prog.funcs[f]? = some fn∧(fn.name == "runtime.NumGoroutine")=false∧fn.body.isNone=false
def AFn (f:FuncId) (args:List AV) (os:List (List AV)) (R:AV→List (List AV)→Prop):Prop :=
  FnOK f∧∀ (w:World) (G:Gh) (vs:List Value),CVs G w args vs→(∀ b i,G.C b i→b<w.heap.size)→(∀ (i:Nat) (l:List AV),os[i]? = some l→ObOK G w i l)→(∀ i j,i<os.length→j<os.length→G.ad i=G.ad j→i=j) →
    Calls Try.prog f vs.toArray w (fun e w'=>∃ v r os' G',e=.returned v∧PostC os.length G w R v w' r os' G')
def DLe (x y:DV):Prop:=isAgg' x=isAgg' y∧∀ C w us,CX C w x us→CX C w y us
theorem DLe.cv {G:Gh} {w:World} {x y:DV} {v:Value} (h:DLe x y) (hv:CV G w (.d x) v):CV G w (.d y) v:=by
  obtain ⟨us,h1,h2⟩:=hv
  refine ⟨us,h.2 _ _ _ h1,?_⟩
  have h3:=h.1
  rcases h2 with ⟨⟨m,rfl⟩,e⟩ | ⟨h2,e⟩
  · cases y with
    | agg m'=>exact .inl ⟨⟨m',rfl⟩,e⟩
    | _=>cases h3
  · refine .inr ⟨fun m e2=>?_,e⟩
    subst e2
    cases x with
    | agg m'=>exact h2 m' rfl
    | _=>cases h3
theorem dle_refl (x:DV):DLe x x:=⟨rfl,fun _ _ _ h=>h⟩
theorem dle_wh (k:Nat) (l:List DV):DLe (.wh k l) (.sl k l):=⟨rfl,fun _ _ _ h=>wh_sl h⟩
theorem dle_nl (k:Nat):DLe .nl (.wh k []):=⟨rfl,fun C w us h=>by obtain rfl:=h;exact cx_whnil C w k⟩
inductive DLes:List DV→List DV→Prop where
  | nil:DLes [] []
  | cons {x y:DV} {l m:List DV} (h:DLe x y) (hh:DLes l m):DLes (x :: l) (y :: m)
theorem DLes.cx {l m:List DV} (h:DLes l m):∀ C w us,CXs C w l us→CXs C w m us:=by
  induction h with
  | nil=>exact fun _ _ _ h=>h
  | cons h hh ih=>intro C w us h1;obtain ⟨u,v,e,h2,h3⟩:=h1;exact ⟨u,v,e,h.2 _ _ _ h2,ih _ _ _ h3⟩
theorem dle_agg {l m:List DV} (h:DLes l m):DLe (.agg l) (.agg m):=⟨rfl,h.cx⟩
theorem cvs_leaves {G:Gh} {w:World}:∀ {m:List DV} {us:List Value},leaves m=true→CVs G w (m.map .d) us→CXs G.C w m us
  | [],us,_,h=>h
  | x :: m,us,hl,h=>by
    obtain ⟨v,us',rfl,h1,h2⟩:=h
    simp only [leaves,List.all_cons,Bool.and_eq_true] at hl
    obtain ⟨us1,h3,h4⟩:=h1
    rcases h4 with ⟨⟨m',e⟩,_⟩ | ⟨_,e⟩
    · subst e;simp [isAgg'] at hl
    · exact ⟨[v],us',rfl,e ▸ h3,cvs_leaves hl.2 h2⟩
mutual
inductive ALe:AV→AV→Prop where
  | refl (x:AV):ALe x x
  | dd {x y:DV} (h:DLe x y):ALe (.d x) (.d y)
  | nil (k:Nat):ALe .nil (.d (.sl k []))
  | buf (g:Nat) (T:TypeId) (k:Nat) (l:List DV):ALe (.buf g T k l) (.d (.sl k l))
  | bufw (g:Nat) (T:TypeId) (k:Nat) (l:List DV):ALe (.buf g T k l) (.d (.wh k l))
  | nl:ALe (.d .nl) .nil
  | nilw (k:Nat):ALe .nil (.d (.wh k []))
  | tup {l m:List AV} (h:ALes l m):ALe (.tup l) (.tup m)
  | st {l m:List AV} (h:ALes l m):ALe (.st l) (.st m)
  | std {l:List AV} {m:List DV} (hl:leaves m=true) (h:ALes l (m.map .d)):ALe (.st l) (.d (.agg m))
  | junk (x:AV):ALe x .junk
  | any {x:DV} {P:DV→Prop} (h:P x) (ha:∀ m,x ≠ .agg m):ALe (.d x) (.any P)
  | anyP {P Q:DV→Prop} (h:∀ x,P x→Q x):ALe (.any P) (.any Q)
inductive ALes:List AV→List AV→Prop where
  | nil:ALes [] []
  | cons {x y:AV} {l m:List AV} (h:ALe x y) (hh:ALes l m):ALes (x :: l) (y :: m)
end
mutual
theorem ALe.cv {G:Gh} {w:World}:∀ {x y:AV} {v:Value},ALe x y→CV G w x v→CV G w y v
  | _,_,_,.refl _,h=>h
  | _,_,_,.dd h,hv=>h.cv hv
  | _,_,_,.nil k,h=>by simp only [CV] at h;subst h;exact cvSl.2 (cx_nil _ _ _)
  | _,_,_,.buf _ _ _ _,h=>cvSl.2 (wh_sl h.2.2.2)
  | _,_,_,.bufw _ _ _ _,h=>cvWh.2 h.2.2.2
  | _,_,_,.nl,h=>cvNl.1 h
  | _,_,_,.nilw k,h=>by simp only [CV] at h;subst h;exact cvWh.2 (cx_whnil _ _ _)
  | _,_,_,.tup h,hv=>by obtain ⟨vs,h1,h2⟩:=hv;exact ⟨vs,h1,ALes.cv h h2⟩
  | _,_,_,.st h,hv=>by obtain ⟨vs,h1,h0,h2⟩:=hv;exact ⟨vs,h1,h0,ALes.cv h h2⟩
  | _,_,_,.std hl h,hv=>by obtain ⟨vs,h1,h0,h2⟩:=hv;exact cvAgg.2 ⟨vs,cvs_leaves hl (ALes.cv h h2),h1⟩
  | _,_,_,.junk _,_=>trivial
  | _,_,_,.any h ha,hv=>by
    obtain ⟨us,h1,h2⟩:=hv
    rcases h2 with ⟨⟨m,e⟩,_⟩ | ⟨_,rfl⟩
    · exact absurd e (ha m)
    · exact ⟨_,h,ha,h1⟩
  | _,_,_,.anyP h,hv=>by obtain ⟨x,h1,h2,h3⟩:=hv;exact ⟨x,h x h1,h2,h3⟩
theorem ALes.cv {G:Gh} {w:World}:∀ {l m:List AV} {vs:List Value},ALes l m→CVs G w l vs→CVs G w m vs
  | _,_,_,.nil,h=>h
  | _,_,_,.cons h hh,hv=>by obtain ⟨v,us,e,h2,h3⟩:=hv;exact ⟨v,us,e,ALe.cv h h2,ALes.cv hh h3⟩
end
inductive ASub (ns:List Nat):AV→AV→Prop where
  | d (x:DV):ASub ns (.d x) (.d x)
  | dd {x y:DV} (h:DLe x y):ASub ns (.d x) (.d y)
  | nil (k:Nat):ASub ns .nil (.d (.sl k []))
  | nn:ASub ns .nil .nil
  | buf (g:Nat) (T:TypeId) (k:Nat) (l:List DV):ASub ns (.buf g T k l) (.d (.sl k l))
  | bufd (g:Nat) (T:TypeId) {k:Nat} {l:List DV} {y:DV} (h:DLe (.sl k l) y):ASub ns (.buf g T k l) (.d y)
  | ptr (o i j:Nat) (h:ns[i]? = some o):ASub ns (.ptr o j) (.ptr i j)
  | arr (o i k n:Nat) (h:ns[i]? = some o):ASub ns (.arr o k n) (.arr i k n)
  | loc (l:List DV):ASub ns (.loc l) (.loc l)
  | any (P:DV→Prop):ASub ns (.any P) (.any P)
  | std {l:List AV} {m:List DV} {y:DV} (hm:toDVs false l=some m) (h:DLe (.agg m) y):ASub ns (.st l) (.d y)
inductive ASubs (ns:List Nat):List AV→List AV→Prop where
  | nil:ASubs ns [] []
  | cons {x y:AV} {l m:List AV} (h:ASub ns x y) (hh:ASubs ns l m):ASubs ns (x :: l) (y :: m)
theorem ASub.cv {ns:List Nat} {G:Gh} {w:World} {x y:AV} {v:Value} (h:ASub ns x y) (hv:CV G w x v):CV { G with ad:=fun i=>G.ad (ns.getD i 0) } w y v:=by
  cases h with
  | d x=>exact hv
  | dd h=>exact h.cv hv
  | nil k=>simp only [CV] at hv;subst hv;exact cvSl.2 (cx_nil _ _ _)
  | nn=>exact hv
  | buf g T k l=>exact cvSl.2 (wh_sl hv.2.2.2)
  | bufd g T h=>exact h.cv (cvSl.2 (wh_sl hv.2.2.2))
  | ptr o i j h=>simp only [CV] at hv ⊢;rw [hv];simp [List.getD,h]
  | arr o i k n h=>obtain ⟨c,h1,h2⟩:=hv;exact ⟨c,by rw [h1];simp [List.getD,h],h2⟩
  | loc l=>exact hv
  | any P=>exact hv
  | std hm h=>obtain ⟨vs,h1,h0,h2⟩:=hv;exact h.cv (cvAgg.2 ⟨vs,CXs_of_k1 (toDVs_ok hm h2 h0).1,h1⟩)
theorem ASubs.cv {ns:List Nat} {G:Gh} {w:World}:∀ {l m:List AV} {vs:List Value},ASubs ns l m→CVs G w l vs→CVs { G with ad:=fun i=>G.ad (ns.getD i 0) } w m vs
  | _,_,_,.nil,h=>h
  | _,_,_,.cons h hh,hv=>by obtain ⟨v,us,e,h2,h3⟩:=hv;exact ⟨v,us,e,h.cv h2,hh.cv h3⟩
mutual
def renA (ns:List Nat) (d:Nat):AV→AV
  | .junk=>.junk
  | .d x=>.d x
  | .nil=>.nil
  | .buf g T k l=>if g=0 then .buf d T k l else .d (.sl k l)
  | .loc m=>.loc m
  | .ptr i j=>if i<ns.length then .ptr (ns.getD i 0) j else if i=ns.length then .ptr d j else .junk
  | .arr i k n=>if i<ns.length then .arr (ns.getD i 0) k n else if i=ns.length then .arr d k n else .junk
  | .tup l=>.tup (renAs ns d l)
  | .st l=>.st (renAs ns d l)
  | .fn f l=>.fn f (renAs ns d l)
  | .any P=>.any P
  | .cst c=>.cst c
def renAs (ns:List Nat) (d:Nat):List AV→List AV
  | []=>[]
  | x :: l=>renA ns d x :: renAs ns d l
end
structure RenG (ns:List Nat) (d:Nat) (G' G'':Gh) (w':World):Prop where
  st:Stay G'.C G''.C w' w'
  hd:G''.hd d=G'.hd 0∧G''.hT d=G'.hT 0∧G''.hk d=G'.hk 0
  ad:∀ i,i<ns.length→G''.ad (ns.getD i 0)=G'.ad i
  an:G''.ad d=G'.ad ns.length
mutual
theorem CV.ren {ns:List Nat} {d:Nat} {G' G'':Gh} {w':World} (h:RenG ns d G' G'' w'):∀ (x:AV) (v:Value),CV G' w' x v→CV G'' w' (renA ns d x) v
  | .junk,v,_=>trivial
  | .d x,v,hv=>by obtain ⟨us,h1,h2⟩:=hv;exact ⟨us,CX.stay h.st x us h1,h2⟩
  | .nil,v,hv=>hv
  | .buf g T k l,v,hv=>by
    obtain ⟨h1,h2,h3,h4⟩:=hv
    simp only [renA]
    split
    · rename_i e
      subst e
      exact ⟨by rw [h.hd.1];exact h1,by rw [h.hd.2.1];exact h2,by rw [h.hd.2.2];exact h3,CX.stay h.st _ _ h4⟩
    · exact cvSl.2 (wh_sl (CX.stay h.st _ _ h4))
  | .loc m,v,hv=>by
    obtain ⟨b,o,us,h1,h2,h3⟩:=hv
    exact ⟨b,o,us,h1,CXk.stay h.st 1 m us h2,fun i u hu=>⟨(h.st _ _ (h3 i u hu).1).1,(h3 i u hu).2⟩⟩
  | .ptr i j,v,hv=>by
    simp only [renA]
    split
    · rename_i hi;simp only [CV] at hv ⊢;rw [h.ad i hi];exact hv
    · split
      · rename_i e;subst e;simp only [CV] at hv ⊢;rw [h.an];exact hv
      · trivial
  | .arr i k n,v,hv=>by
    simp only [renA]
    split
    · rename_i hi;simp only [CV] at hv ⊢;rw [h.ad i hi];exact hv
    · split
      · rename_i e;subst e;simp only [CV] at hv ⊢;rw [h.an];exact hv
      · trivial
  | .tup l,v,hv=>by obtain ⟨vs,h1,h2⟩:=hv;exact ⟨vs,h1,CVs.ren h l vs h2⟩
  | .st l,v,hv=>by obtain ⟨vs,h1,h0,h2⟩:=hv;exact ⟨vs,h1,h0,CVs.ren h l vs h2⟩
  | .fn f l,v,hv=>by obtain ⟨vs,h1,h2⟩:=hv;exact ⟨vs,h1,CVs.ren h l vs h2⟩
  | .any P,v,hv=>by obtain ⟨x,h1,h2,h3⟩:=hv;exact ⟨x,h1,h2,CX.stay h.st x _ h3⟩
  | .cst c,v,hv=>hv
theorem CVs.ren {ns:List Nat} {d:Nat} {G' G'':Gh} {w':World} (h:RenG ns d G' G'' w'):∀ (l:List AV) (vs:List Value),CVs G' w' l vs→CVs G'' w' (renAs ns d l) vs
  | [],vs,hv=>hv
  | x :: l,vs,hv=>by obtain ⟨v,us,e,h2,h3⟩:=hv;exact ⟨v,us,e,CV.ren h x v h2,CVs.ren h l us h3⟩
end
def obSel:List Nat→List (List AV)→Nat→Option (List AV)
  | n :: ns,l :: os,o=>if o=n then some l else obSel ns os o
  | _,_,_=>none
def AS.call (s:AS) (ns:List Nat) (d:Nat) (os':List (List AV)):AS :=
  ⟨fun t=>scrub (fun g=>!(g == d)) (fun o=>!(o == d)) (s.tm t),fun o=>if o=d then (os'[ns.length]?).map (renAs ns d) else
    match obSel ns os' o with
    | some l=>some (renAs ns d l)
    | none=>(s.ob o).map (scrubs (fun g=>!(g == d)) (fun o=>!(o == d)))⟩
theorem obSel_some {o:Nat} {l:List AV}:∀ {ns:List Nat} {os:List (List AV)},obSel ns os o=some l→∃ i,i<ns.length∧ns.getD i 0=o∧os[i]? = some l
  | [],os,h=>by simp [obSel] at h
  | n :: ns,[],h=>by simp [obSel] at h
  | n :: ns,l' :: os,h=>by
    simp only [obSel] at h
    split at h
    · rename_i e;cases h;exact ⟨0,by simp,by simp [e],by simp⟩
    · obtain ⟨i,h1,h2,h3⟩:=obSel_some h
      exact ⟨i+1,by simp;omega,by simpa using h2,by simpa using h3⟩
theorem obSel_none {o:Nat}:∀ {ns:List Nat} {os:List (List AV)},ns.length≤os.length→obSel ns os o=none→∀ i,i<ns.length→ns.getD i 0 ≠ o
  | [],os,_,_,i,hi=>by simp at hi
  | n :: ns,[],h,_,_,_=>by simp at h
  | n :: ns,l' :: os,hl,h,i,hi=>by
    simp only [obSel] at h
    split at h
    · cases h
    · rename_i e
      cases i with
      | zero=>simpa using fun e2=>e e2.symm
      | succ i=>simpa using obSel_none (by simpa using hl) h i (by simpa using hi)
def ObsOK (s:AS) (ns:List Nat):List Nat→List (List AV)→Prop
  | [],os=>os=[]
  | n :: l,os=>∃ m m' os',os=m' :: os'∧s.ob n=some m∧ASubs ns m m'∧ObsOK s ns l os'
theorem ObsOK.at {s:AS} {ns:List Nat}:∀ {l:List Nat} {os:List (List AV)},ObsOK s ns l os→os.length=l.length∧∀ (i:Nat) (m':List AV),os[i]? = some m'→∃ m,s.ob (l.getD i 0)=some m∧ASubs ns m m'
  | [],os,h=>by obtain rfl:=h;exact ⟨rfl,fun i m' h=>by simp at h⟩
  | n :: l,os,h=>by
    obtain ⟨m,m',os',rfl,h1,h2,h3⟩:=h
    obtain ⟨g1,g2⟩:=ObsOK.at h3
    refine ⟨by simp [g1],fun i m2 hm=>?_⟩
    cases i with
    | zero=>simp at hm;subst hm;exact ⟨m,by simpa using h1,h2⟩
    | succ i=>simpa using g2 i m2 (by simpa using hm)
section
variable {X:Cx} {G:Gh} {s:AS} {a:Act} {w:World} {K:AS→Prop} {o:Oper} {ty:TypeId→Option TyI}
theorem scrubs_eq_map {fb fo:Nat→Bool}:(List.map (scrub fb fo))=scrubs fb fo:=by funext l;exact (scrubs_map fb fo l).symm
theorem RelG.called {ns:List Nat} {d:Nat} {os':List (List AV)} {w':World} {R:AV→List (List AV)→Prop} {v:Value} {r:AV} {G':Gh} (h:RelG X G s a w)
    (hp:PostC ns.length { G with ad:=fun i=>G.ad (ns.getD i 0) } w R v w' r os' G') (hob:∀ i,i<ns.length→s.ob (ns.getD i 0) ≠ none) (hnd:∀ i,i<ns.length→ns.getD i 0 ≠ d) (hle:os'.length≤ns.length+1) (hdlt:d<1000000) :
    ∃ G'',RelG X G'' (s.call ns d os') a w'∧CV G'' w' (renA ns d r) v∧G''=⟨fun b i=>G.C b i∨G'.C b i,fun g=>if g=d then G'.hd 0 else G.hd g,fun g=>if g=d then G'.hT 0 else G.hT g,fun g=>if g=d then G'.hk 0 else G.hk g,fun o=>if o=d then G'.ad ns.length else G.ad o⟩:=by
  let G2:Gh:=⟨fun b i=>G.C b i∨G'.C b i,fun g=>if g=d then G'.hd 0 else G.hd g,fun g=>if g=d then G'.hT 0 else G.hT g,fun g=>if g=d then G'.hk 0 else G.hk g,fun o=>if o=d then G'.ad ns.length else G.ad o⟩
  have hlent:∀ b,Lent { G with ad:=fun i=>G.ad (ns.getD i 0) } ns.length b→∃ q,s.ob q ≠ none∧G.ad q=b∧∃ i,i<ns.length∧ns.getD i 0=q:=fun b ⟨i,hi,e⟩=>⟨ns.getD i 0,hob i hi,e,i,hi,rfl⟩
  have hobA:∀ q,s.ob q ≠ none→∃ l,s.ob q=some l∧ObOK G w q l:=fun q hq=>by
    cases e:s.ob q with
    | none=>exact absurd e hq
    | some l=>exact ⟨l,rfl,h.ob q l e⟩
  have hblk:∀ b,b<w.heap.size→(∀ q,s.ob q ≠ none→(∃ i,i<ns.length∧ns.getD i 0=q)→G.ad q ≠ b)→w'.heap[b]? = w.heap[b]?:=fun b hb hn=>hp.fr.block b hb (fun hl=>by
    obtain ⟨q,h1,h2,h3⟩:=hlent b hl
    exact hn q h1 h3 h2)
  have hCb:∀ b i,G.C b i→∀ q,s.ob q ≠ none→G.ad q ≠ b:=fun b i hc q hq e=>by
    obtain ⟨l,_,h2⟩:=hobA q hq
    exact h2.2.1 i (e ▸ hc)
  have hbufb:∀ g b,(G.hd g).ownBlock=some b→b<w.heap.size∧X.w0.heap.size≤b:=fun g b hb=>by
    obtain ⟨a0,n0,c0,vs,e1,e2,_⟩:=h.bf g
    have:=e2.1.lt b (by rw [← e1];exact hb)
    exact ⟨this.2,this.1⟩
  have hbufb':∀ g b,(G'.hd g).ownBlock=some b→b<w'.heap.size∧w.heap.size≤b:=fun g b hb=>by
    obtain ⟨a0,n0,c0,vs,e1,e2,_⟩:=hp.bf g
    have:=e2.1.lt b (by rw [← e1];exact hb)
    exact ⟨this.2,this.1⟩
  have hst1:Stay G.C G2.C w w':=fun b i hc=>⟨.inl hc,World.cell?_of_block (w:=w) (hblk b (h.cs b i hc) (fun q h1 _=>hCb b i hc q h1))⟩
  have hst2:Stay G'.C G2.C w' w':=fun b i hc=>⟨.inr hc,rfl⟩
  have hgle:GLe (fun g=>!(g == d)) (fun o=>!(o == d)) G G2 w w':=⟨hst1,fun g hg=>by simp at hg;simp [G2,hg],fun o ho=>by simp at ho;simp [G2,ho]⟩
  have hren:RenG ns d G' G2 w':=⟨hst2,by simp [G2],fun i hi=>by
    have e1:=hp.adl i hi
    simp only [G2,if_neg (hnd i hi)]
    exact e1.symm,by simp [G2]⟩
  have hobs:∀ q l,(s.call ns d os').ob q=some l→(q=d∧∃ l',os'[ns.length]? = some l'∧l=renAs ns d l')∨(q ≠ d∧∃ i l',i<ns.length∧ns.getD i 0=q∧os'[i]? = some l'∧l=renAs ns d l') ∨
      (q ≠ d∧(∀ i,i<ns.length→ns.getD i 0 ≠ q)∧∃ l',s.ob q=some l'∧l=scrubs (fun g=>!(g == d)) (fun o=>!(o == d)) l'):=fun q l hq=>by
    simp only [AS.call] at hq
    split at hq
    · rename_i e
      cases e2:os'[ns.length]? with
      | none=>rw [e2] at hq;cases hq
      | some l'=>rw [e2] at hq;cases hq;exact .inl ⟨e,l',rfl,rfl⟩
    · rename_i e
      split at hq
      · rename_i l' e2
        cases hq
        obtain ⟨i,h1,h2,h3⟩:=obSel_some e2
        exact .inr (.inl ⟨e,i,l',h1,h2,h3,rfl⟩)
      · rename_i e2
        cases e3:s.ob q with
        | none=>rw [e3] at hq;cases hq
        | some l'=>rw [e3] at hq;cases hq;exact .inr (.inr ⟨e,obSel_none hp.le e2,l',rfl,rfl⟩)
  have had2:∀ q l,(s.call ns d os').ob q=some l→(q=d∧w.heap.size≤G2.ad q∧G2.ad q=G'.ad ns.length∧ns.length<os'.length)∨(q ≠ d∧s.ob q ≠ none∧G2.ad q=G.ad q):=fun q l hq=>by
    rcases hobs q l hq with ⟨rfl,l',h1,_⟩ | ⟨e,i,l',h1,h2,_⟩ | ⟨e,_,l',h1,_⟩
    · have hlt:=(List.getElem?_eq_some_iff.1 h1).1
      exact .inl ⟨rfl,by simp only [G2,if_true];exact hp.adn _ (Nat.le_refl _) hlt,by simp [G2],hlt⟩
    · exact .inr ⟨e,by rw [← h2];exact hob i h1,by simp [G2,e]⟩
    · exact .inr ⟨e,by rw [h1];exact fun x=>(by cases x),by simp [G2,e]⟩
  refine ⟨G2,⟨⟨hp.fr.os.trans h.fr.os,hp.fr.tape.trans h.fr.tape,hp.fr.output.trans h.fr.output,Nat.le_trans h.fr.size hp.fr.size,fun b hb hl=>?_⟩,h.df,h.n,fun t ht=>CV.scrub hgle _ _ (h.tm t ht),fun g=>?_,fun q l hq=>?_,fun b i hc=>?_,fun g g' hne e=>?_,fun q q' h1 h2 e=>?_,fun q g h1=>?_,fun q h1=>?_,fun b i hc hb=>?_,fun b i hc hl=>?_,fun i h1=>?_,fun b i hc=>.inl (h.c0 b i hc),fun b i hc hz=>?_⟩,CV.ren hren _ _ hp.res,rfl⟩
  · rw [hblk b (Nat.lt_of_lt_of_le hb h.fr.size) (fun q h1 _ e=>?_)]
    · exact h.fr.block b hb hl
    · rcases (h.ow q h1).2 with h2 | h2
      · omega
      · rw [e] at h2;exact hl h2
  · by_cases e:g=d
    · obtain ⟨a0,n0,c0,vs,e1,e2,e3⟩:=hp.bf 0
      refine ⟨a0,n0,c0,vs,by simp [G2,e,e1],by simp only [G2,if_pos e];exact e2.low h.fr.size,fun b hb i=>⟨fun hc=>?_,fun hci=>.inr ((e3 b hb i).2 (by simpa [G2,e] using hci))⟩⟩
      simp only [G2,if_pos e]
      rcases hc with hc | hc
      · exfalso
        have h1:=h.cs b i hc
        have h2:=(hbufb' 0 b (by rw [e1,hb];rfl)).2
        omega
      · exact (e3 b hb i).1 hc
    · obtain ⟨a0,n0,c0,vs,e1,e2,e3⟩:=h.bf g
      refine ⟨a0,n0,c0,vs,by simp [G2,e,e1],?_,fun b hb i=>⟨fun hc=>?_,fun hci=>.inl ((e3 b hb i).2 (by simpa [G2,e] using hci))⟩⟩
      · simp only [G2,if_neg e]
        refine ⟨⟨e2.1.1,?_⟩,e2.2⟩
        rcases e2.1.2 with q1 | ⟨g0,cap,cur,q1,q2,q3,q4⟩
        · exact .inl q1
        · refine .inr ⟨g0,cap,cur,q1,q2,?_,q4⟩
          rw [hblk g0 (Array.getElem?_eq_some_iff.1 q3).1 (fun q h1 _ e5=>h.d3 q g h1 (by rw [e1,q1,e5];rfl))]
          exact q3
      · simp only [G2,if_neg e]
        rcases hc with hc | hc
        · exact (e3 b hb i).1 hc
        · have h1:=(hbufb g b (by rw [e1,hb];rfl)).1
          exact (e3 b hb i).1 (hp.lc b i hc h1)
  · rcases hobs q l hq with ⟨rfl,l',h1,rfl⟩ | ⟨e,i,l',h1,h2,h3,rfl⟩ | ⟨e,e2,l',h1,rfl⟩
    · obtain ⟨g1,g2,us,g3,g4,g5⟩:=hp.ob _ l' h1
      have hlt:=(List.getElem?_eq_some_iff.1 h1).1
      have had:G2.ad q=G'.ad ns.length:=by simp [G2]
      refine ⟨by rw [had];exact g1,fun i hc=>?_,us,CVs.ren hren _ _ g3,g4,by rw [had];exact g5⟩
      rw [had] at hc
      rcases hc with hc | hc
      · have h5:=h.cs _ _ hc
        have h6:=hp.adn _ (Nat.le_refl _) hlt
        omega
      · exact g2 i hc
    · obtain ⟨g1,g2,us,g3,g4,g5⟩:=hp.ob _ l' h3
      have had:G2.ad q=G'.ad i:=by rw [← h2];exact hren.ad i h1
      refine ⟨by rw [had];exact g1,fun j hc=>?_,us,CVs.ren hren _ _ g3,g4,by rw [had];exact g5⟩
      have had3:G2.ad q=G.ad q:=by simp [G2,e]
      rcases hc with hc | hc
      · rw [had3] at hc
        exact hCb _ _ hc q (by rw [← h2];exact hob i h1) rfl
      · rw [had] at hc;exact g2 j hc
    · obtain ⟨g1,g2,us,g3,g4,g5⟩:=h.ob q l' h1
      have had:G2.ad q=G.ad q:=by simp [G2,e]
      have hq0:s.ob q ≠ none:=by rw [h1];exact fun x=>(by cases x)
      have hb1:=hblk (G.ad q) g1 (fun q2 h3 ⟨i,h4,h5⟩ e6=>e2 i h4 (h5.trans (h.d2 q2 q h3 hq0 e6)))
      refine ⟨by rw [had];exact Nat.lt_of_lt_of_le g1 hp.fr.size,fun j hc=>?_,us,CVs.scrub hgle _ _ g3,g4,fun j u hu=>?_⟩
      · rw [had] at hc
        rcases hc with hc | hc
        · exact g2 j hc
        · exact g2 j (hp.lc _ _ hc g1)
      · rw [had,World.cell?_of_block (w:=w) hb1,World.frozen?_of_block (w:=w) hb1]
        exact g5 j u hu
  · rcases hc with hc | hc
    · exact Nat.lt_of_lt_of_le (h.cs b i hc) hp.fr.size
    · exact hp.cs b i hc
  · by_cases e1:g=d
    · by_cases e2:g'=d
      · exact absurd (e1.trans e2.symm) hne
      · simp only [G2,if_pos e1,if_neg e2] at e ⊢
        cases h3:(G'.hd 0).ownBlock with
        | none=>rfl
        | some b =>
          rw [h3] at e
          have h4:=(hbufb' 0 b h3).2
          have h5:=(hbufb g' b e.symm).1
          omega
    · by_cases e2:g'=d
      · simp only [G2,if_neg e1,if_pos e2] at e ⊢
        cases h3:(G'.hd 0).ownBlock with
        | none=>rw [h3] at e;exact e
        | some b =>
          rw [h3] at e
          have h4:=(hbufb' 0 b h3).2
          have h5:=(hbufb g b e).1
          omega
      · simp only [G2,if_neg e1,if_neg e2] at e ⊢
        exact h.d1 g g' hne e
  · cases e1:(s.call ns d os').ob q with
    | none=>exact absurd e1 h1
    | some l =>
      cases e2:(s.call ns d os').ob q' with
      | none=>exact absurd e2 h2
      | some l' =>
        have hlt:∀ q,s.ob q ≠ none→G.ad q<w.heap.size:=fun q hq=>by obtain ⟨l,_,h3⟩:=hobA q hq;exact h3.1
        rcases had2 q l e1 with ⟨p1,p2,_⟩ | ⟨p1,p2,p3⟩
        · rcases had2 q' l' e2 with ⟨r1,r2,_⟩ | ⟨r1,r2,r3⟩
          · exact p1.trans r1.symm
          · have:=hlt q' r2;rw [e,r3] at p2;omega
        · rcases had2 q' l' e2 with ⟨r1,r2,_⟩ | ⟨r1,r2,r3⟩
          · have:=hlt q p2;rw [← e,p3] at r2;omega
          · rw [p3,r3] at e;exact h.d2 q q' p2 r2 e
  · cases e1:(s.call ns d os').ob q with
    | none=>exact absurd e1 h1
    | some l =>
      have hlt:∀ q,s.ob q ≠ none→G.ad q<w.heap.size:=fun q hq=>by obtain ⟨l,_,h3⟩:=hobA q hq;exact h3.1
      rcases had2 q l e1 with ⟨p1,p2,p3,p4⟩ | ⟨p1,p2,p3⟩
      · by_cases e:g=d
        · simp only [G2,if_pos e,if_pos p1]
          exact hp.d3 ns.length 0 p4
        · simp only [G2,if_neg e]
          intro e3
          have:=(hbufb g _ e3).1
          simp only [G2] at p2;omega
      · by_cases e:g=d
        · simp only [G2,if_pos e]
          intro e3
          have h5:=(hbufb' 0 _ e3).2
          have h6:=hlt q p2
          simp only [G2] at p3;omega
        · simp only [G2,if_neg e,if_neg p1]
          exact h.d3 q g p2
  · cases e1:(s.call ns d os').ob q with
    | none=>exact absurd e1 h1
    | some l =>
      rcases had2 q l e1 with ⟨p1,p2,p3,p4⟩ | ⟨p1,p2,p3⟩
      · have:=h.fr.size;exact ⟨fun _=>by omega,.inl (by omega)⟩
      · rw [p3];exact h.ow q p2
  · rcases hc with hc | hc
    · exact h.lc b i hc hb
    · exact h.lc b i (hp.lc b i hc (Nat.lt_of_lt_of_le hb h.fr.size)) hb
  · rcases hc with hc | hc
    · exact h.nl b i hc hl
    · have h1:=X.hL b hl
      exact h.nl b i (hp.lc b i hc (Nat.lt_of_lt_of_le h1 h.fr.size)) hl
  · cases e1:(s.call ns d os').ob (1000000+i) with
    | none=>exact absurd e1 h1
    | some l =>
      rcases had2 _ l e1 with ⟨p1,_⟩ | ⟨p1,p2,p3⟩
      · omega
      · rw [p3];exact h.ln i p2
  · rcases hc with hc | hc
    · rw [World.frozen?_of_block (w:=w) (hblk b (h.cs b i hc) (fun q h1 _=>hCb b i hc q h1))]
      exact h.uf b i hc hz
    · by_cases e:b<w.heap.size
      · have h5:=hp.lc b i hc e
        rw [World.frozen?_of_block (w:=w) (hblk b e (fun q h1 _=>hCb b i h5 q h1))]
        exact h.uf b i h5 hz
      · exact hp.uf b i hc (by omega)
def ACall (f:FuncId) (avs:List AV) (s:AS) (dst:Option Nat) (K:AS→Prop):Prop :=
  ∃ d ns args os R,dst=some d∧d<1000000∧AFn f args os R∧ASubs ns avs args∧ObsOK s ns ns os∧(∀ i,i<ns.length→ns.getD i 0 ≠ d)∧(∀ i j,i<ns.length→j<ns.length→ns.getD i 0=ns.getD j 0→i=j) ∧
    ∀ r os',R r os'→os'.length≤ns.length+1∧K ((s.call ns d os').put d (renA ns d r))
@[congr] theorem ACall.congr {f:FuncId} {avs avs':List AV} {s:AS} {dst:Option Nat} {K:AS→Prop} (h:avs=avs'):ACall f avs s dst K=ACall f avs' s dst K:=by rw [h]
def sCall (N:Nat) (s:AS) (dst:Option Nat) (f:Operand) (args:Array Operand) (K:AS→Prop):Prop:=match ev N s f with
  | .fn g caps=>ACall g (evs N s args.toList ++ caps) s dst K
  | _=>False
theorem snd_call {f:Operand} {args:Array Operand} {c:Call} (h:RelG X G s a w) (ho:o.op=.call c) (hc:c.callee=.value f) (hca:c.args=args) (hs:sCall X.N s o.dst f args K):Snd o X a w K:=by
  intro nx Q hn
  have hf:=h.ev f
  unfold sCall at hs
  split at hs
  · rename_i g caps hg
    rw [hg] at hf
    obtain ⟨cv,e1,h1⟩:=hf
    obtain ⟨d,ns,args',os,R,hd,hdlt,⟨⟨fn,hfn,hb1,hb2⟩,hA⟩,hsub,hobs,hnd,hinj,hK⟩:=hs
    have hargs:=(h.evs args.toList).app h1
    have hcv:=hsub.cv hargs
    obtain ⟨hol,hoat⟩:=hobs.at
    have hob:∀ i,i<ns.length→s.ob (ns.getD i 0) ≠ none:=fun i hi=>by
      obtain ⟨m,hm,_⟩:=hoat i os[i] (by simp [hol,hi])
      rw [hm];exact fun x=>(by cases x)
    have hcall:=hA w { G with ad:=fun i=>G.ad (ns.getD i 0) } _ hcv h.cs (fun i l hl=>by
      obtain ⟨m,hm,hsb⟩:=hoat i l hl
      obtain ⟨g1,g2,us,g3,g4,g5⟩:=h.ob _ m hm
      exact ⟨g1,g2,us,hsb.cv g3,g4,g5⟩) (fun i j hi hj e=>hinj i j (by omega) (by omega) (h.d2 _ _ (hob i (by omega)) (hob j (by omega)) e))
    rw [hol] at hcall
    have hrun:(execOp a.eval o).run Try.prog w=.ok (.enter g ((args.toList.map a.eval) ++ cv).toArray) w:=by
      have hb3:¬ fn.name = "runtime.NumGoroutine" := by simpa using hb1
      have hb4:¬ fn.body=none:=by intro e;rw [e] at hb2;cases hb2
      simp [execOp,ho,resolve,hc,hca,e1,Deferred.ofValue,invoke,callFunc,hfn,hb3,hb4]
    unfold Oper.wp
    rw [hrun]
    simp only [Oper.upon]
    refine hcall.mono ?_
    rintro e w' ⟨v,r,os',G',rfl,hp⟩
    obtain ⟨h3,h4⟩:=hK r os' hp.post
    obtain ⟨G'',h5,h6,_⟩:=h.called hp hob hnd h3 hdlt
    simp only
    rw [hd]
    exact hn _ _ _ h4 ⟨G'',h5.put d h6⟩
  · exact hs.elim
end
def astep (ty:TypeId→Option TyI) (N:Nat) (o:Oper) (s:AS) (K:AS→Prop):Prop:=match o.op with
  | .move x=>sMove N s o.dst x K
  | .assign x=>sMove N s o.dst x K
  | .pick c x y=>sPick N s o.dst c x y K
  | .binOp op T x y _=>sBin op N s o.dst T x y K
  | .unOp op _ x=>sUn op N s o.dst x K
  | .extract t i=>sExtract N s o.dst t i K
  | .fieldAddr T x f=>sFieldAddr ty N s o.dst T x f K
  | .indexAddr T x ix=>sIndexAddr ty N s o.dst T x ix K
  | .load T x=>sLoad ty N s o.dst T x K
  | .store T p x=>sStore ty N s o.dst T p x K
  | .alloc T=>sAlloc ty s o.dst T K
  | .box _ x=>sBox N s o.dst x K
  | .buildSlice T len parts=>sBuildSlice ty N s o.dst T len parts K
  | .makeSlice T l c=>sMakeSlice ty N s o.dst T l c K
  | .nilCheck x=>sNil N s o.dst x K
  | .convert S T x=>sCvt ty N s o.dst S T x K
  | .build T parts=>sBuild ty N s o.dst T parts.toList K
  | .slice T x lo hi mx=>sSlice ty N s o.dst T x lo hi mx K
  | .index T x ix=>sIndex ty N s o.dst T x ix K
  | .makeFunc fn first caps=>sMkF N s o.dst fn first.toList caps.toList K
  | .call c=>match c.callee with
    | .builtin .len=>(match c.args.toList,c.argTypes.toList with
      | [x],[T]=>sLen ty N s o.dst T x K
      | _,_=>False)
    | .builtin .append=>(match c.args.toList,c.argTypes.toList with
      | [x,y],[T,T']=>sAppend ty N s o.dst T T' x y K
      | _,_=>False)
    | .value f=>sCall N s o.dst f c.args K
    | .builtin .max=>(match c.args.toList with
      | [x,y]=>sMM true N s o.dst x y K
      | _=>False)
    | .builtin .min=>(match c.args.toList with
      | [x,y]=>sMM false N s o.dst x y K
      | _=>False)
    | _=>False
  | _=>False
section
variable {X:Cx} {G:Gh} {s:AS} {a:Act} {w:World} {K:AS→Prop} {o:Oper} {ty:TypeId→Option TyI}
theorem arr1 {α:Type} {l:Array α} {x:α} (h:l.toList=[x]):l = #[x]:=Array.toList_inj.1 h
theorem astep_ok (ht:TabOK ty) (h:RelG X G s a w) (hs:astep ty X.N o s K):Snd o X a w K:=by
  unfold astep at hs
  split at hs
  · rename_i ho;exact snd_move h (.inl ho) hs
  · rename_i ho;exact snd_move h (.inr ho) hs
  · rename_i ho;exact snd_pick h ho hs
  · rename_i ho;exact snd_bin h ho hs
  · rename_i ho;exact snd_un h ho hs
  · rename_i ho;exact snd_extract h ho hs
  · rename_i ho;exact snd_fieldAddr ht h ho hs
  · rename_i ho;exact snd_indexAddr ht h ho hs
  · rename_i ho;exact snd_load ht h ho hs
  · rename_i ho;exact snd_store ht h ho hs
  · rename_i ho;exact snd_alloc ht h ho hs
  · rename_i ho;exact snd_box h ho hs
  · rename_i ho;exact snd_buildSlice ht h ho hs
  · rename_i ho;exact snd_makeSlice ht h ho hs
  · rename_i ho;exact snd_nil h ho hs
  · rename_i ho;exact snd_cvt ht h ho hs
  · rename_i ho;exact snd_build ht h ho hs
  · rename_i ho;exact snd_slice ht h ho hs
  · rename_i ho;exact snd_index ht h ho hs
  · rename_i ho;exact snd_mkF h ho hs
  · rename_i c ho
    split at hs
    · rename_i hc
      split at hs
      · rename_i x T h1 h2
        exact snd_len ht h ho (by cases c;simp only at hc h1 h2;rw [hc,arr1 h1,arr1 h2]) hs
      · exact hs.elim
    · rename_i hc
      split at hs
      · rename_i x y T T' h1 h2
        exact snd_append ht h ho (by cases c;simp only at hc h1 h2;rw [hc,show _ = #[x,y] from Array.toList_inj.1 h1,show _ = #[T,T'] from Array.toList_inj.1 h2]) hs
      · exact hs.elim
    · rename_i f hc
      exact snd_call h ho hc rfl hs
    · rename_i hc
      split at hs
      · rename_i x y h1
        exact snd_max h ho (ats:=c.argTypes) (by cases c;simp only at hc h1 ⊢;rw [hc,show _ = #[x,y] from Array.toList_inj.1 h1]) hs
      · exact hs.elim
    · rename_i hc
      split at hs
      · rename_i x y h1
        exact snd_min h ho (ats:=c.argTypes) (by cases c;simp only at hc h1 ⊢;rw [hc,show _ = #[x,y] from Array.toList_inj.1 h1]) hs
      · exact hs.elim
    · exact hs.elim
  · exact hs.elim
end
def aops (ty:TypeId→Option TyI) (N:Nat) (ops:List Oper):List Oper→AS→(AS→Prop)→Prop
  | [],s,K=>K s
  | o :: rest,s,K=>match o.guard with
    | none=>astep ty N o s (fun s'=>aops ty N ops rest s' K)
    | some (j,want)=>match (ops[j]?).bind (·.dst) with
      | some t=>t<N∧match s.tm t with
        | .d (.bool b)=>if b=want then astep ty N o s (fun s'=>aops ty N ops rest s' K) else aops ty N ops rest (s.putD o.dst (.cst undef)) K
        | .cst c=>c=undef∧aops ty N ops rest (s.putD o.dst (.cst undef)) K
        | _=>False
      | none=>False
theorem KA_ex (ty:TypeId→Option TyI) (N:Nat) (ops rest:List Oper) (K:AS→Prop):∃ f:AS→Prop,f=fun s=>aops ty N ops rest s K:=⟨_,rfl⟩
noncomputable def KA (ty:TypeId→Option TyI) (N:Nat) (ops rest:List Oper) (K:AS→Prop):AS→Prop:=Classical.choose (KA_ex ty N ops rest K)
theorem KA_eq (ty:TypeId→Option TyI) (N:Nat) (ops rest:List Oper) (K:AS→Prop):KA ty N ops rest K=fun s=>aops ty N ops rest s K:=Classical.choose_spec (KA_ex ty N ops rest K)
theorem KA_app (ty:TypeId→Option TyI) (N:Nat) (ops rest:List Oper) (K:AS→Prop) (s:AS):KA ty N ops rest K s=aops ty N ops rest s K:=by rw [KA_eq]
theorem aops_nil (ty:TypeId→Option TyI) (N:Nat) (ops:List Oper) (s:AS) (K:AS→Prop):aops ty N ops [] s K=K s:=rfl
theorem aops_cons (ty:TypeId→Option TyI) (N:Nat) (ops rest:List Oper) (o:Oper) (s:AS) (K:AS→Prop):aops ty N ops (o :: rest) s K=match o.guard with
    | none=>astep ty N o s (KA ty N ops rest K)
    | some (j,want)=>match (ops[j]?).bind (·.dst) with
      | some t=>t<N∧match s.tm t with
        | .d (.bool b)=>if b=want then astep ty N o s (KA ty N ops rest K) else KA ty N ops rest K (s.putD o.dst (.cst undef))
        | .cst c=>c=undef∧KA ty N ops rest K (s.putD o.dst (.cst undef))
        | _=>False
      | none=>False:=by rw [KA_eq];rfl
theorem aops_ok {X:Cx} {ty:TypeId→Option TyI} (ht:TabOK ty) {ops:List Oper} {Q:Exit→Act→World→Prop} {K:AS→Prop} (hQ:∀ s a w,K s→Rel X s a w→Q .normal a w) :
    ∀ (l:List Oper) (s:AS) (a:Act) (w:World),aops ty X.N ops l s K→Rel X s a w→wpList Try.prog ops.toArray Q l a w
  | [],s,a,w,h,hr=>hQ s a w h hr
  | o :: rest,s,a,w,h,⟨G,hr⟩=>by
    have go:astep ty X.N o s (fun s'=>aops ty X.N ops rest s' K)→o.wp Try.prog a w (wpList Try.prog ops.toArray Q rest) Q:=fun h1 =>
      astep_ok ht hr h1 _ Q (fun s' a' w' h2 h3=>aops_ok ht hQ rest s' a' w' h2 h3)
    unfold aops at h
    unfold wpList
    split at h
    · rename_i hg
      rw [if_pos (by simp [Region.wanted,hg])]
      exact .inl (go h)
    · rename_i j want hg
      split at h
      · rename_i t ht'
        obtain ⟨hlt,h⟩:=h
        split at h
        · rename_i b hb
          have hv:=hr.tm t hlt
          rw [hb] at hv
          have hv':=cvBool.1 hv
          have hy:yielded ops.toArray a.tmps j=some b:=by
            have h1:(ops.toArray[j]?).bind (·.dst)=some t:=by simpa using ht'
            have h2:a.tmps[t]? = some (.bool b):=by
              have h3:t<a.tmps.size:=by rw [hr.n];exact hlt
              rw [Array.getD_eq_getD_getElem?] at hv'
              rw [Array.getElem?_eq_getElem h3] at hv' ⊢
              simpa using hv'
            simp only [yielded,h1,Option.bind_some,h2]
          split at h
          · rename_i e
            rw [if_pos (by simp [Region.wanted,hg,hy,e])]
            exact .inl (go h)
          · rename_i e
            rw [if_neg (by simp [Region.wanted,hg,hy,e])]
            exact aops_ok ht hQ rest _ _ w h ⟨G,hr.putD o.dst rfl⟩
        · rename_i c hb
          obtain ⟨rfl,h⟩:=h
          have hv:=hr.tm t hlt
          rw [hb] at hv
          have hv':a.tmps.getD t undef=undef:=hv
          have hy:yielded ops.toArray a.tmps j=none:=by
            have h1:(ops.toArray[j]?).bind (·.dst)=some t:=by simpa using ht'
            have h3:t<a.tmps.size:=by rw [hr.n];exact hlt
            have h2:a.tmps[t]? = some undef:=by
              rw [Array.getD_eq_getD_getElem?] at hv'
              rw [Array.getElem?_eq_getElem h3] at hv' ⊢
              simpa using hv'
            simp only [yielded,h1,Option.bind_some,h2]
            rfl
          rw [if_neg (by simp [Region.wanted,hg,hy])]
          exact aops_ok ht hQ rest _ _ w h ⟨G,hr.putD o.dst rfl⟩
        · exact h.elim
      · exact h.elim
def AWp (P:Cx→Prop) (N:Nat) (c:Code) (Q:Exit→AS→Prop) (s:AS):Prop :=
  ∀ (X:Cx) (a:Act) (w:World),X.N=N→P X→Rel X s a w→c.wp Try.prog (fun e a' w'=>∃ s',Q e s'∧Rel X s' a' w') a w
section
variable {P:Cx→Prop} {N:Nat} {Q:Exit→AS→Prop} {s:AS}
theorem awp_region {ty:TypeId→Option TyI} (ht:TabOK ty) {id:Nat} {l:List Oper} (h:aops ty N l l s (Q .normal)):AWp P N (.region id l.toArray false) Q s :=
  fun X a w hN hP hr=>wp_region_lit (aops_ok (X:=X) ht (Q:=fun e a' w'=>∃ s',Q e s'∧Rel X s' a' w') (fun s' _ _ h1 h2=>⟨s',h1,h2⟩) l s a w (by rw [hN];exact h) hr)
theorem awp_skip (h:Q .normal s):AWp P N .skip Q s:=fun _ _ _ _ _ hr=>wp_skip ⟨s,h,hr⟩
theorem awp_exit {id:Nat} (h:Q (.exit id) s):AWp P N (.exit id) Q s:=fun _ _ _ _ _ hr=>wp_exit ⟨s,h,hr⟩
theorem awp_ret (h:Q .ret s):AWp P N .ret Q s:=fun _ _ _ _ _ hr=>wp_ret ⟨s,h,hr⟩
def thenA (next:AS→Prop) (Q:Exit→AS→Prop):Exit→AS→Prop
  | .normal,s=>next s
  | e,s=>Q e s
theorem awp_seq {x y:Code} (h:AWp P N x (thenA (AWp P N y Q) Q) s):AWp P N (.seq x y) Q s:=by
  intro X a w hN hP hr
  refine wp_seq (wp_mono (h X a w hN hP hr) ?_)
  rintro e a' w' ⟨s',h1,h2⟩
  cases e with
  | normal=>exact h1 X a' w' hN hP h2
  | _=>exact ⟨s',h1,h2⟩
theorem awp_cond {c:Operand} {x y:Code} {b:Bool} (hc:ev N s c=.d (.bool b)) (ht:b=true→AWp P N x Q s) (hf:b=false→AWp P N y Q s):AWp P N (.cond c x y) Q s:=by
  intro X a w hN hP hr
  obtain ⟨G,hg⟩:=hr
  have hv:=hg.ev c
  rw [hN,hc] at hv
  refine wp_cond_split (cvBool.1 hv) (fun e=>ht e X a w hN hP ⟨G,hg⟩) (fun e=>hf e X a w hN hP ⟨G,hg⟩)
def inBlockA (id:Nat) (Q:Exit→AS→Prop):Exit→AS→Prop
  | .exit id',s=>if id'=id then Q .normal s else Q (.exit id') s
  | e,s=>Q e s
theorem awp_block {id:Nat} {c:Code} (h:AWp P N c (inBlockA id Q) s):AWp P N (.block id c) Q s:=by
  intro X a w hN hP hr
  refine wp_block (wp_mono (h X a w hN hP hr) ?_)
  rintro e a' w' ⟨s',h1,h2⟩
  cases e with
  | exit id' =>
    simp only [inBlockA] at h1
    simp only [Exit.inBlock]
    split
    · rename_i e;rw [if_pos e] at h1;exact ⟨s',h1,h2⟩
    · rename_i e;rw [if_neg e] at h1;exact ⟨s',h1,h2⟩
  | _=>exact ⟨s',h1,h2⟩
theorem awp_loop {c:Code} (I:Nat→AS→Prop) (h0:∃ m,I m s) (round:∀ m s,I m s→AWp P N c (thenA (fun s'=>∃ m',m'<m∧I m' s') Q) s):AWp P N (.loop c) Q s:=by
  intro X a w hN hP hr b k cs
  have key:∀ m s a w,I m s→Rel X s a w →
      ∃ e a' w',(∃ s',Q e s'∧Rel X s' a' w')∧Arrives Try.prog (lone (b.at a (.code c :: .inLoop c :: k)) cs w) b k cs e a' w':=by
    intro m
    induction m using Nat.strongRecOn with
    | _ m ih =>
      intro s a w hI hr
      obtain ⟨e,a₁,w₁,⟨s',hq,hr'⟩,harr⟩:=round m s hI X a w hN hP hr b (.inLoop c :: k) cs
      cases e with
      | normal =>
        obtain ⟨m',hlt,hI'⟩:=hq
        obtain ⟨e₂,a₂,w₂,hq₂,harr₂⟩:=ih m' hlt s' a₁ w₁ hI' hr'
        exact ⟨e₂,a₂,w₂,hq₂,.of_steps (Steps.trans harr (.one step_inLoop)) harr₂⟩
      | exit id=>exact ⟨_,a₁,w₁,⟨s',hq,hr'⟩,.pass (x:=.inLoop c) rfl (fun _ _=>.inl (by simp)) harr⟩
      | goto l=>exact ⟨_,a₁,w₁,⟨s',hq,hr'⟩,.pass (x:=.inLoop c) rfl (fun _ _=>.inl (by simp)) harr⟩
      | ret=>exact ⟨_,a₁,w₁,⟨s',hq,hr'⟩,.pass (x:=.inLoop c) rfl (fun _ _=>.inl (by simp)) harr⟩
      | panic ch=>exact ⟨_,a₁,w₁,⟨s',hq,hr'⟩,.pass (x:=.inLoop c) rfl (fun _ _=>.inl (by simp)) harr⟩
      | outgrown=>exact ⟨_,a₁,w₁,⟨s',hq,hr'⟩,.pass (x:=.inLoop c) rfl (fun _ _=>.inl (by simp)) harr⟩
  obtain ⟨m,hI⟩:=h0
  obtain ⟨e,a',w',hq,harr⟩:=key m s a w hI hr
  exact ⟨e,a',w',hq,.of_steps (.one step_loop) harr⟩
theorem RelG.retm {X:Cx} {G:Gh} {a:Act} {w:World} {t:Nat} {x:AV} (h:RelG X G s a w) (hv:t<X.N→CV G w x (a.tmps.getD t undef)):RelG X G (s.put t x) a w:=by
  obtain ⟨h1,h2,h3,h4,h5,h6,h7,h8,h9,h10,h11,h12,h13,h14,h15,h16⟩:=h
  refine ⟨h1,h2,h3,fun q hq=>?_,h5,h6,h7,h8,h9,h10,h11,h12,h13,h14,h15,h16⟩
  by_cases e:q=t
  · subst e;simpa [AS.put] using hv hq
  · simp only [AS.put,if_neg e];exact h4 q hq
theorem awp_nilbuf {c:Code} (t g:Nat) (T:TypeId) (k:Nat) (h0:s.tm t=.nil) (h:AWp P N c Q ((s.newB g).put t (.buf g T k []))):AWp P N c Q s:=by
  intro X a w hN hP ⟨G,hr⟩
  have hset:=hr.setBuf (w':=w) (g:=g) (T:=T) (k:=k) (World.grownBy.refl w _) (fun _ _ _ _=>rfl) (fun b j hb' hc=>by obtain ⟨a9,n9,c9,vs9,q1,q2,q3⟩:=hr.bf g;exact hr.uf b j hc (q2.1.lt b (by rw [← q1];exact hb')).1) (ownF_nil T k w X.w0.heap.size) (fun b hb=>by cases hb) (fun _ _=>False) (fun _ _ h=>h.elim) (fun b i hb=>by cases hb)
  refine h X a w hN hP ⟨_,RelG.retm hset fun hq=>?_⟩
  have hv:=hr.tm t hq
  rw [h0] at hv
  simp only [CV] at hv
  exact ⟨by rw [hv];simp,by simp,by simp,by rw [hv];exact cx_whnil _ _ _⟩
end
mutual
def entA:AV→AV
  | .junk=>.junk
  | .d x=>.d x
  | .nil=>.nil
  | .buf _ _ k l=>.d (.sl k l)
  | .loc m=>.loc m
  | .ptr i j=>.ptr (1000000+i) j
  | .arr i k n=>.arr (1000000+i) k n
  | .tup l=>.tup (entAs l)
  | .st l=>.st (entAs l)
  | .fn f l=>.fn f (entAs l)
  | .any P=>.any P
  | .cst c=>.cst c
def entAs:List AV→List AV
  | []=>[]
  | x :: l=>entA x :: entAs l
end
def entTm:List AV→Nat→Nat→AV
  | [],_,_=>.junk
  | x :: l,k,t=>if t=k then entA x else entTm l (k+1) t
def entOb:List (List AV)→Nat→Nat→Option (List AV)
  | [],_,_=>none
  | l :: os,k,o=>if o=k then some (entAs l) else entOb os (k+1) o
def entS (args:List AV) (os:List (List AV)):AS:=⟨entTm args 0,entOb os 1000000⟩
def entG (G:Gh):Gh:=⟨G.C,fun _=>.slice none 0 0,fun _=>0,fun _=>0,fun o=>G.ad (o - 1000000)⟩
mutual
theorem CV.ent {G:Gh} {w:World}:∀ (x:AV) (v:Value),CV G w x v→CV (entG G) w (entA x) v
  | .junk,v,_=>trivial
  | .d x,v,hv=>hv
  | .nil,v,hv=>hv
  | .buf g T k l,v,hv=>cvSl.2 (wh_sl hv.2.2.2)
  | .loc m,v,hv=>hv
  | .ptr i j,v,hv=>by simp only [CV,entA,entG] at hv ⊢;rw [Nat.add_sub_cancel_left];exact hv
  | .arr i k n,v,hv=>by simp only [CV,entA,entG] at hv ⊢;rw [Nat.add_sub_cancel_left];exact hv
  | .tup l,v,hv=>by obtain ⟨vs,h1,h2⟩:=hv;exact ⟨vs,h1,CVs.ent l vs h2⟩
  | .st l,v,hv=>by obtain ⟨vs,h1,h0,h2⟩:=hv;exact ⟨vs,h1,h0,CVs.ent l vs h2⟩
  | .fn f l,v,hv=>by obtain ⟨vs,h1,h2⟩:=hv;exact ⟨vs,h1,CVs.ent l vs h2⟩
  | .any P,v,hv=>hv
  | .cst c,v,hv=>hv
theorem CVs.ent {G:Gh} {w:World}:∀ (l:List AV) (vs:List Value),CVs G w l vs→CVs (entG G) w (entAs l) vs
  | [],vs,hv=>hv
  | x :: l,vs,hv=>by obtain ⟨v,us,e,h2,h3⟩:=hv;exact ⟨v,us,e,CV.ent x v h2,CVs.ent l us h3⟩
end
theorem entTm_ok {G:Gh} {w:World}:∀ (l:List AV) (vs:List Value) (k t:Nat),CVs G w l vs→k≤t→CV (entG G) w (entTm l k t) (vs.getD (t - k) undef)
  | [],vs,k,t,h,hk=>trivial
  | x :: l,vs,k,t,h,hk=>by
    obtain ⟨v,us,rfl,h2,h3⟩:=h
    simp only [entTm]
    split
    · rename_i e;subst e;simpa using CV.ent x v h2
    · rename_i e
      have:=entTm_ok l us (k+1) t h3 (by omega)
      have e2:t - k=(t - (k+1))+1:=by omega
      rw [e2];simpa using this
theorem entOb_ok:∀ (os:List (List AV)) (k o:Nat) (l:List AV),entOb os k o=some l→k≤o∧∃ l',os[o - k]? = some l'∧l=entAs l'
  | [],k,o,l,h=>by simp [entOb] at h
  | l0 :: os,k,o,l,h=>by
    simp only [entOb] at h
    split at h
    · rename_i e;cases h;subst e;exact ⟨Nat.le_refl _,l0,by simp,rfl⟩
    · rename_i e
      obtain ⟨h1,l',h2,h3⟩:=entOb_ok os (k+1) o l h
      have e2:o - k=(o - (k+1))+1:=by omega
      exact ⟨by omega,l',by rw [e2];simpa using h2,h3⟩
theorem rel_ent {N:Nat} {w:World} {G:Gh} {args:List AV} {os:List (List AV)} {vs:List Value} (h1:CVs G w args vs) (h2:∀ b i,G.C b i→b<w.heap.size) (h3:∀ (i:Nat) (l:List AV),os[i]? = some l→ObOK G w i l)
    (h4:∀ i j,i<os.length→j<os.length→G.ad i=G.ad j→i=j) (hN:args.length≤N) :
    ∃ X:Cx,X.N=N∧X.w0=w∧X.L=Lent G os.length∧X.C0=G.C∧X.A=G.ad∧Rel X (entS args os) { tmps:=vs.toArray ++ Array.replicate (N - vs.toArray.size) undef,defers:=[] } w:=by
  have hob:∀ i,i<os.length→ObOK G w i os[i]!:=fun i hi=>h3 i _ (by simp [hi])
  refine ⟨⟨w,Lent G os.length,G.C,N,G.ad,fun b ⟨i,hi,e⟩=>(by rw [← e];exact (hob i hi).1),h2⟩,rfl,rfl,rfl,rfl,rfl,entG G,⟨⟨rfl,rfl,rfl,Nat.le_refl _,fun _ _ _=>rfl⟩,rfl,?_,fun t ht=>?_,fun g=>?_,fun o l ho=>?_,h2,fun g h _ _=>rfl,fun o o' ho ho' e=>?_,fun o g ho e=>(by cases e),fun o ho=>?_,fun b i hc _=>hc,fun b i hc hl=>?_,fun i _=>?_,fun _ _ hc=>hc,fun b i hc hz=>by have:=h2 b i hc;exact absurd hz (Nat.not_le.2 this)⟩⟩
  · have:=h1.len;simp;omega
  · have:=entTm_ok args vs 0 t h1 (Nat.zero_le _)
    have hl:=h1.len
    by_cases e:t<vs.length
    · have e2:(vs.toArray ++ Array.replicate (N - vs.toArray.size) undef).getD t undef=vs.getD (t - 0) undef:=by
        simp [Array.getD_eq_getD_getElem?,List.getD,Array.getElem?_append,e]
      simp only [entS];rw [e2];exact this
    · have e3:∀ (l:List AV) (k:Nat),k+l.length≤t→entTm l k t=.junk:=fun l=>by
        induction l with
        | nil=>intro k _;rfl
        | cons x l ih=>intro k hk;simp only [List.length_cons] at hk;simp only [entTm];rw [if_neg (by omega)];exact ih (k+1) (by omega)
      simp only [entS];rw [e3 args 0 (by omega)];trivial
  · exact ⟨none,0,0,[],rfl,ownF_nil _ _ _ _,fun b hb=>by cases hb⟩
  · obtain ⟨hk,l',h5,rfl⟩:=entOb_ok os 1000000 o l ho
    obtain ⟨g1,g2,us,g3,g4,g5⟩:=h3 _ l' h5
    exact ⟨g1,g2,us,CVs.ent _ _ g3,g4,g5⟩
  · cases e1:(entS args os).ob o with
    | none=>exact absurd e1 ho
    | some l =>
      cases e2:(entS args os).ob o' with
      | none=>exact absurd e2 ho'
      | some l2 =>
        obtain ⟨k1,l',h5,_⟩:=entOb_ok os 1000000 o l e1
        obtain ⟨k2,l'',h6,_⟩:=entOb_ok os 1000000 o' l2 e2
        have:=h4 _ _ (List.getElem?_eq_some_iff.1 h5).1 (List.getElem?_eq_some_iff.1 h6).1 e
        omega
  · cases e1:(entS args os).ob o with
    | none=>exact absurd e1 ho
    | some l =>
      obtain ⟨k1,l',h5,_⟩:=entOb_ok os 1000000 o l e1
      exact ⟨fun hlt=>by have:=(entOb_ok os 1000000 o l e1).1;omega,.inr ⟨_,(List.getElem?_eq_some_iff.1 h5).1,rfl⟩⟩
  · obtain ⟨i',hi,e⟩:=hl
    exact (hob i' hi).2.1 i (e ▸ hc)
  · simp [entG]
def loadO (i:TyI) (l:List AV) (r:Nat):Option AV:=match i.agg with
  | true=>if r+i.size≤l.length then ldM i.wh i.st ((l.drop r).take i.size) else none
  | false=>if r<l.length then some (l.getD r .junk) else none
def finA (ty:TypeId→Option TyI) (N:Nat) (s:AS):List ResultVar→Option (List AV)
  | []=>some []
  | .tmp t :: l=>if t<N then (finA ty N s l).map (s.tm t :: ·) else none
  | .cell p T :: l=>if p<N then (match s.tm p with
    | .ptr q r=>match s.ob q,ty T with
      | some c,some i=>match loadO i c r with
        | some x=>(finA ty N s l).map (x :: ·)
        | none=>none
      | _,_=>none
    | _=>none) else none
section
variable {X:Cx} {G:Gh} {s:AS} {a:Act} {w:World} {ty:TypeId→Option TyI}
theorem loadO_ok {T:TypeId} {i:TyI} {q r:Nat} {l:List AV} {x:AV} (hT:TyOK T i) (h:RelG X G s a w) (hob:s.ob q=some l) (hx:loadO i l r=some x):∃ v,(loadVar T ⟨G.ad q,r,none⟩).run Try.prog w=.ok v w∧CV G w x v:=by
  obtain ⟨_,_,us,h1,h2,h3⟩:=h.ob q l hob
  have hlen:=h1.len
  unfold loadO at hx
  split at hx
  · rename_i hag
    split at hx
    · rename_i h4
      · obtain ⟨v,hr,hv⟩:=run_loadVar hT (w:=w) (b:=G.ad q) (o:=r) (us:=(us.drop r).take i.size) (by simp;omega) (fun j u hu=>by
          have hj:j<i.size:=by have:=(List.getElem?_eq_some_iff.1 hu).1;simp at this;omega
          rw [List.getElem?_take_of_lt hj,List.getElem?_drop] at hu
          exact (h3 _ u hu).1)
        rcases hv with ⟨_,rfl⟩ | ⟨h0,_⟩
        · refine ⟨_,hr,?_⟩
          rcases ldM_cases hx with rfl | ⟨m,hm,rfl⟩
          · exact ⟨_,rfl,fun u hu=>h2 u (List.mem_of_mem_drop (List.mem_of_mem_take hu)),(h1.drop r).take i.size⟩
          · obtain ⟨g1,g2⟩:=toDVs_ok hm ((h1.drop r).take i.size) (fun u hu=>h2 u (List.mem_of_mem_drop (List.mem_of_mem_take hu)))
            exact cvAgg.2 ⟨_,CXs_of_k1 g1,rfl⟩
        · rw [hag] at h0;cases h0
    · cases hx
  · rename_i hag
    split at hx
    · rename_i h4
      cases hx
      obtain ⟨v0,hv0,hc0⟩:=h1.at r (l.getD r .junk) (by simp [List.getD,h4])
      obtain ⟨v,hr,hv⟩:=run_loadVar hT (w:=w) (b:=G.ad q) (o:=r) (us:=[v0]) (by simp [(hT.flat hag).1]) (fun j u hu=>by
        cases j with
        | zero=>simp at hu;subst hu;exact (h3 _ _ hv0).1
        | succ j=>simp at hu)
      rcases hv with ⟨h0,_⟩ | ⟨_,h5⟩
      · rw [hag] at h0;cases h0
      · cases h5;exact ⟨_,hr,hc0⟩
    · cases hx
theorem finA_ok (ht:TabOK ty) (h:RelG X G s a w):∀ (l:List ResultVar) (xs:List AV),finA ty X.N s l=some xs →
    ∃ vs,(l.mapM (fun r=>match r with | ResultVar.tmp t=>(pure (a.tmps.getD t undef):Sem Value) | ResultVar.cell p T=>(do loadVar T (← asAddr (a.tmps.getD p undef))))).run Try.prog w=.ok vs w∧CVs G w xs vs
  | [],xs,hx=>by cases hx;exact ⟨[],by simp,rfl⟩
  | .tmp t :: l,xs,hx=>by
    simp only [finA] at hx
    split at hx
    · rename_i hlt
      cases e:finA ty X.N s l with
      | none=>rw [e] at hx;cases hx
      | some ys =>
        rw [e] at hx
        cases hx
        obtain ⟨vs,h1,h2⟩:=finA_ok ht h l ys e
        refine ⟨a.tmps.getD t undef :: vs,?_,_,_,rfl,h.tm t hlt,h2⟩
        simp only [List.mapM_cons,Sem.run_bind,Sem.run_pure,Result.andThen_ok,h1]
    · cases hx
  | .cell p T :: l,xs,hx=>by
    simp only [finA] at hx
    split at hx
    · rename_i hlt
      split at hx
      · rename_i q r hp
        split at hx
        · rename_i c i hq hi
          split at hx
          · rename_i x hl
            cases e:finA ty X.N s l with
            | none=>rw [e] at hx;cases hx
            | some ys =>
              rw [e] at hx
              cases hx
              obtain ⟨vs,h1,h2⟩:=finA_ok ht h l ys e
              obtain ⟨v,hr,hv⟩:=loadO_ok (ht T i hi) h hq hl
              have hpv:=h.tm p hlt
              rw [hp] at hpv
              simp only [CV] at hpv
              refine ⟨v :: vs,?_,_,_,rfl,hv,h2⟩
              have hA:(asAddr (a.tmps.getD p undef)).run Try.prog w=.ok ⟨G.ad q,r,none⟩ w:=by rw [hpv];rfl
              simp only [List.mapM_cons,Sem.run_bind,Sem.run_pure,Result.andThen_ok,hA,hr,h1]
          · cases hx
        · cases hx
      · cases hx
    · cases hx
end
def retA:List AV→AV
  | [x]=>x
  | l=>.tup l
mutual
def outA (nl:List Nat) (g:Nat):AV→AV
  | .junk=>.junk
  | .d x=>.d x
  | .nil=>.nil
  | .buf g' T k l=>if g'=g then .buf 0 T k l else .d (.sl k l)
  | .loc m=>.loc m
  | .ptr o j=>match nl.idxOf? o with
    | some i=>.ptr i j
    | none=>.junk
  | .arr o k n=>match nl.idxOf? o with
    | some i=>.arr i k n
    | none=>.junk
  | .tup l=>.tup (outAs nl g l)
  | .st l=>.st (outAs nl g l)
  | .fn f l=>.fn f (outAs nl g l)
  | .any P=>.any P
  | .cst c=>.cst c
def outAs (nl:List Nat) (g:Nat):List AV→List AV
  | []=>[]
  | x :: l=>outA nl g x :: outAs nl g l
end
def outG (G:Gh) (nl:List Nat) (g:Nat):Gh:=⟨G.C,fun g'=>if g'=0 then G.hd g else .slice none 0 0,fun g'=>if g'=0 then G.hT g else 0,fun g'=>if g'=0 then G.hk g else 0,fun i=>G.ad (nl.getD i 0)⟩
theorem idxOf_getD {nl:List Nat} {o i:Nat} (h:nl.idxOf? o=some i):nl.getD i 0=o:=by
  have h1:=List.findIdx?_eq_some_iff_getElem.1 h
  obtain ⟨h2,h3,_⟩:=h1
  simp only [beq_iff_eq] at h3
  simp [List.getD,h2,h3]
mutual
theorem CV.outp {G:Gh} {w:World} {nl:List Nat} {g:Nat}:∀ (x:AV) (v:Value),CV G w x v→CV (outG G nl g) w (outA nl g x) v
  | .junk,v,_=>trivial
  | .d x,v,hv=>hv
  | .nil,v,hv=>hv
  | .buf g' T k l,v,hv=>by
    obtain ⟨h1,h2,h3,h4⟩:=hv
    simp only [outA]
    split
    · rename_i e;subst e;exact ⟨by simp [outG,h1],by simp [outG,h2],by simp [outG,h3],h4⟩
    · exact cvSl.2 (wh_sl h4)
  | .loc m,v,hv=>hv
  | .ptr o j,v,hv=>by
    simp only [outA]
    split
    · rename_i i e;simp only [CV,outG] at hv ⊢;rw [idxOf_getD e];exact hv
    · trivial
  | .arr o k n,v,hv=>by
    simp only [outA]
    split
    · rename_i i e;simp only [CV,outG] at hv ⊢;rw [idxOf_getD e];exact hv
    · trivial
  | .tup l,v,hv=>by obtain ⟨vs,h1,h2⟩:=hv;exact ⟨vs,h1,CVs.outp l vs h2⟩
  | .st l,v,hv=>by obtain ⟨vs,h1,h0,h2⟩:=hv;exact ⟨vs,h1,h0,CVs.outp l vs h2⟩
  | .fn f l,v,hv=>by obtain ⟨vs,h1,h2⟩:=hv;exact ⟨vs,h1,CVs.outp l vs h2⟩
  | .any P,v,hv=>hv
  | .cst c,v,hv=>hv
theorem CVs.outp {G:Gh} {w:World} {nl:List Nat} {g:Nat}:∀ (l:List AV) (vs:List Value),CVs G w l vs→CVs (outG G nl g) w (outAs nl g l) vs
  | [],vs,hv=>hv
  | x :: l,vs,hv=>by obtain ⟨v,us,e,h2,h3⟩:=hv;exact ⟨v,us,e,CV.outp x v h2,CVs.outp l us h3⟩
end
def obsOut (s:AS) (nl:List Nat) (g:Nat):List Nat→Option (List (List AV))
  | []=>some []
  | n :: l=>match s.ob n,obsOut s nl g l with
    | some c,some os=>some (outAs nl g c :: os)
    | _,_=>none
theorem obsOut_ok {s:AS} {nl:List Nat} {g:Nat}:∀ {l:List Nat} {os:List (List AV)},obsOut s nl g l=some os→os.length=l.length∧∀ i,i<l.length→∃ c,s.ob (l.getD i 0)=some c∧os[i]? = some (outAs nl g c)
  | [],os,h=>by cases h;exact ⟨rfl,fun i hi=>by simp at hi⟩
  | n :: l,os,h=>by
    unfold obsOut at h
    split at h
    · rename_i c os' h1 h2
      cases h
      obtain ⟨g1,g2⟩:=obsOut_ok h2
      refine ⟨by simp [g1],fun i hi=>?_⟩
      cases i with
      | zero=>exact ⟨c,by simpa using h1,by simp⟩
      | succ i=>simpa using g2 i (by simpa using hi)
    · cases h
def lentN (n:Nat):List Nat:=(List.range n).map (1000000 + ·)
def EndA (ty:TypeId→Option TyI) (N n:Nat) (rv:List ResultVar) (R:AV→List (List AV)→Prop):Exit→AS→Prop:=fun e s=>(e=.normal∨e=.ret) ∧
  ∃ more g xs os,finA ty N s rv=some xs∧(lentN n ++ more).Nodup∧(∀ o∈more,o<1000000)∧obsOut s (lentN n ++ more) g (lentN n ++ more)=some os∧∃ r,ALe (outA (lentN n ++ more) g (retA xs)) r∧R r os
theorem afn_core {P:Cx→Prop} {f N:Nat} {fn:Func} {c:Code} {args:List AV} {os:List (List AV)} {R:AV→List (List AV)→Prop} {ty:TypeId→Option TyI} {rv:List ResultVar} (ht:TabOK ty) (hf:Try.prog.funcs[f]? = some fn) (hb:fn.body=some c)
    (hN:fn.ntmps=N) (hrv:fn.results.toList=rv) (hargs:args.length≤N) (h:AWp P N c (EndA ty N os.length rv R) (entS args os)) (w:World) (G:Gh) (vs:List Value) (h1:CVs G w args vs) (h2:∀ b i,G.C b i→b<w.heap.size)
    (h3:∀ (i:Nat) (l:List AV),os[i]? = some l→ObOK G w i l) (h4:∀ i j,i<os.length→j<os.length→G.ad i=G.ad j→i=j) (hP:∀ X:Cx,X.w0=w→X.C0=G.C→X.A=G.ad→P X) :
    Calls Try.prog f vs.toArray w (fun e w'=>∃ v r os' G',e=.returned v∧PostC os.length G w R v w' r os' G'):=by
  obtain ⟨X,hXN,hXw,hXL,hXC,hXA,hR⟩:=rel_ent h1 h2 h3 h4 hargs
  refine calls_of_wp hf hb (wp_mono (h X _ w hXN (hP X hXw hXC hXA) ?_) ?_)
  · rw [hN];exact hR
  · rintro e a' w' ⟨s',⟨he,more,g,xs,os',hx,hnd,hml,hos,rr,hle,hRR⟩,G',hr⟩
    subst hrv
    rw [← hXN] at hx
    obtain ⟨us,hm,hcv⟩:=finA_ok ht hr fn.results.toList xs hx
    have hres:∃ v,(results fn a'.tmps).run Try.prog w'=.ok v w'∧CV G' w' (retA xs) v:=by
      have hl:=hcv.len
      have hm2:(fn.results.mapM (fun r=>match r with | ResultVar.tmp t=>(pure (a'.tmps.getD t undef):Sem Value) | ResultVar.cell p T=>(do loadVar T (← asAddr (a'.tmps.getD p undef))))).run Try.prog w'=.ok us.toArray w':=by
        rw [Array.mapM_eq_mapM_toList]
        simp only [Sem.run_map,hm,Result.andThen_ok]
      unfold results
      simp only [Sem.run_bind]
      refine ⟨if h:us.toArray.size=1 then us.toArray[0] else .tuple us.toArray,?_,?_⟩
      · erw [hm2];rfl
      · cases xs with
        | nil=>obtain rfl:=List.eq_nil_of_length_eq_zero (by simpa using hl);exact ⟨[],rfl,rfl⟩
        | cons x xs =>
          cases xs with
          | nil =>
            obtain ⟨v,us',rfl,g2,g3⟩:=hcv
            obtain rfl:=g3
            simpa [retA] using g2
          | cons y xs =>
            have:¬ us.toArray.size=1:=by simp [hl]
            rw [dif_neg this]
            exact ⟨us,rfl,hcv⟩
    obtain ⟨v,hv1,hv2⟩:=hres
    obtain ⟨hol,hoat⟩:=obsOut_ok hos
    have hlen:(lentN os.length).length=os.length:=by simp [lentN]
    have hlent:∀ i,i<os.length→(lentN os.length ++ more).getD i 0=1000000+i:=fun i hi=>by
      simp [List.getD,List.getElem?_append,lentN,hi]
    have hpost:PostC os.length G w R v w' rr os' (outG G' (lentN os.length ++ more) g):=by
      have hsome:∀ i,i<os'.length→s'.ob ((lentN os.length ++ more).getD i 0) ≠ none:=fun i hi=>by
        obtain ⟨c',h5,_⟩:=hoat i (by rw [← hol];exact hi)
        rw [h5];exact fun x=>(by cases x)
      refine ⟨hRR,hle.cv (CV.outp _ _ hv2),?_,?_,?_,fun i l hl=>?_,fun i hi=>?_,fun i hi1 hi2=>?_,fun i j hi hj e=>?_,hr.cs,fun b i hc hb=>?_,fun g'=>?_,fun g1 g2 hne e=>?_,fun o g' ho=>?_,fun b i hc hz=>hr.uf b i hc (by rw [hXw];exact hz)⟩
      · have:=hr.fr;rw [hXL,hXw] at this;exact this
      · intro b i hc
        have h5:=hr.c0 b i (by rw [hXC];exact hc)
        have h6:=hr.fr.block b (by rw [hXw];exact h2 b i hc) (hr.nl b i h5)
        rw [hXw] at h6
        exact ⟨h5,World.cell?_of_block (w:=w) h6⟩
      · rw [hol];simp [hlen]
      · have hi:i<os'.length:=(List.getElem?_eq_some_iff.1 hl).1
        obtain ⟨c',h5,h6⟩:=hoat i (by rw [← hol];exact hi)
        rw [hl] at h6
        cases h6
        obtain ⟨g1,g2,us,g3,g4,g5⟩:=hr.ob _ c' h5
        exact ⟨g1,g2,us,CVs.outp _ _ g3,g4,g5⟩
      · have h5:=hr.ln i (by rw [← hlent i hi];exact hsome i (by rw [hol];simp [hlen];omega))
        simp only [outG,hlent i hi,h5,hXA]
      · have hmem:(lentN os.length ++ more).getD i 0∈more:=by
          rw [hol] at hi2
          have:(lentN os.length ++ more).getD i 0=more.getD (i - os.length) 0:=by
            simp only [List.getD,List.getElem?_append,hlen]
            rw [if_neg (by omega)]
          rw [this]
          have hlt:i - os.length<more.length:=by simp [hlen] at hi2;omega
          simp [List.getD,hlt]
        rcases (hr.ow _ (hsome i hi2)).2 with h5 | h5
        · rw [hXw] at h5;exact h5
        · rw [hXL] at h5
          obtain ⟨j,hj,e⟩:=h5
          have hjs:=hsome j (by rw [hol];simp [hlen];omega)
          rw [hlent j hj] at hjs
          have h6:=hr.ln j hjs
          rw [hXA,e] at h6
          have h7:=hr.d2 _ _ hjs (hsome i hi2) h6
          have:=hml _ hmem
          omega
      · have h5:=hr.d2 _ _ (hsome i hi) (hsome j hj) e
        have hi':i<(lentN os.length ++ more).length:=by rw [← hol];exact hi
        have hj':j<(lentN os.length ++ more).length:=by rw [← hol];exact hj
        simp only [List.getD,List.getElem?_eq_getElem hi',List.getElem?_eq_getElem hj',Option.getD_some] at h5
        exact (List.getElem_inj hnd).1 h5
      · have:=hr.lc b i hc (by rw [hXw];exact hb)
        rw [hXC] at this;exact this
      · by_cases e:g'=0
        · obtain ⟨a0,n0,c0,vs0,e1,e2,e3⟩:=hr.bf g
          refine ⟨a0,n0,c0,vs0,by simp [outG,e,e1],by simp only [outG,if_pos e];rw [hXw] at e2;exact e2,by simp only [outG,if_pos e];exact e3⟩
        · exact ⟨none,0,0,[],by simp [outG,e],ownF_nil _ _ _ _,fun b hb=>by cases hb⟩
      · by_cases e1:g1=0
        · by_cases e2:g2=0
          · exact absurd (e1.trans e2.symm) hne
          · simp only [outG,if_pos e1,if_neg e2] at e ⊢;exact e
        · simp only [outG,if_neg e1];rfl
      · by_cases e1:g'=0
        · simp only [outG,if_pos e1];exact hr.d3 _ g (hsome o ho)
        · simp only [outG,if_neg e1];exact fun x=>(by cases x)
    rcases he with rfl | rfl
    · exact ⟨hr.df,v,hv1,v,_,os',_,rfl,hpost⟩
    · exact ⟨hr.df,v,hv1,v,_,os',_,rfl,hpost⟩
theorem afn_of {f N:Nat} {fn:Func} {c:Code} {args:List AV} {os:List (List AV)} {R:AV→List (List AV)→Prop} {ty:TypeId→Option TyI} {rv:List ResultVar} (ht:TabOK ty) (hf:Try.prog.funcs[f]? = some fn) (hb:fn.body=some c) (hnm:(fn.name == "runtime.NumGoroutine")=false)
    (hN:fn.ntmps=N) (hrv:fn.results.toList=rv) (hargs:args.length≤N) (h:AWp (fun _=>True) N c (EndA ty N os.length rv R) (entS args os)):AFn f args os R :=
  ⟨⟨fn,hf,hnm,by rw [hb];rfl⟩,fun w G vs h1 h2 h3 h4=>afn_core ht hf hb hN hrv hargs h w G vs h1 h2 h3 h4 (fun _ _ _ _=>trivial)⟩
def OnlyB (C:Nat→Nat→Prop) (w:World):Nat→Nat→Prop:=fun b i=>C b i∧∀ u,w.cell? ⟨b,i,none⟩=some u→∃ z,u=.int .u8 z
def NoD (x:AV):Prop:=∀ (G:Gh) (w:World) (v:Value),CV G w x v→CV { G with C:=OnlyB G.C w } w x v
def Clean (X:Cx):Prop:=∀ b i,X.C0 b i→∀ u,X.w0.cell? ⟨b,i,none⟩=some u→∃ z,u=.int .u8 z
theorem zInt (G:Gh) (w:World):CV G w (.d (.int 0)) (.int .i64 0):=cvInt.2 ⟨rfl,by unfold I64;omega⟩
theorem zByte (G:Gh) (w:World):CV G w (.d (.byte 0)) (.int .u8 0):=cvByte.2 ⟨rfl,by omega,by omega⟩
theorem zBool (G:Gh) (w:World):CV G w (.d (.bool false)) (.bool false):=cvBool.2 rfl
theorem zStr (G:Gh) (w:World):CV G w (.d (.str ⟨#[]⟩)) (.string ⟨#[]⟩):=cvStr.2 rfl
theorem zNil (G:Gh) (w:World):CV G w .nil (.slice none 0 0):=rfl
theorem tyLeaf {T:TypeId} {z:Value} {b:Nat} {zs:List AV} {d:TypeDesc} (hi:(Try.prog.info? T).map (fun i=>(i.zero,i.size,i.bytes))=some (some z,1,b)) (hb:b≤4096) (hz:ZeroOK zs z.cells.toList) (hc:z.cells.size=1)
    (hu:Try.prog.underlying T=some d) (h1:∀ fs,d ≠ .struct fs) (h2:∀ n e,d ≠ .array n e):TyOK T ⟨1,false,zs,[],some d,[],false,false⟩:=by
  obtain ⟨i0,g1,g2,g3,g4⟩:=info_parts hi
  exact ⟨⟨i0,z,g1,g3,g2,by omega,hz,hc⟩,fun h=>(by cases h),fun _=>⟨rfl,d,hu,h1,h2⟩,fun d' h=>(by cases h;exact hu),fun h=>(by cases h)⟩
def fldsB (fs:Array Field) (flds:List (Nat×TypeId)):Bool:=flds.zipIdx.all fun p=>match fs[p.2]? with
  | some d=>d.offset == p.1.1 && d.type == p.1.2
  | none=>false
theorem tyStruct {pl:List (Nat×Nat)} {T:TypeId} {z:Value} {m b:Nat} {zs:List AV} {fs:Array Field} {flds:List (Nat×TypeId)} (hi:(Try.prog.info? T).map (fun i=>(i.zero,i.size,i.bytes))=some (some z,m,b)) (hb:b≤4096) (hz:ZeroOK zs z.cells.toList) (hc:z.cells.size=m)
    (hu:Try.prog.underlying T=some (.struct fs)) (hf:fldsB fs flds=true) (hp:fs.toList.mapM (fun f=>(Try.prog.info? f.type).map fun i=>(f.offset,i.size))=some pl):TyOK T ⟨m,true,zs,flds,none,pl,false,false⟩:=by
  obtain ⟨i0,g1,g2,g3,g4⟩:=info_parts hi
  refine ⟨⟨i0,z,g1,g3,g2,by omega,hz,hc⟩,fun _=>⟨fs,hu,fun f off T' h=>?_⟩,fun h=>(by cases h),fun d' h=>(by cases h),fun _=>⟨fs,hu,hp⟩⟩
  have h2:((off,T'),f)∈flds.zipIdx:=by rw [List.mem_zipIdx_iff_getElem?];exact h
  have h3:=List.all_eq_true.1 hf _ h2
  simp only at h3
  split at h3
  · rename_i d hd
    simp only [Bool.and_eq_true,beq_iff_eq] at h3
    exact ⟨d,hd,h3.1,h3.2⟩
  · cases h3
end Go.Proofs.Ytpbclpopoodklaa
