/- Lemmas for the proof of FnExactMaximize, part 29 of 56: no condition of their own. -/
import Derived.Test.YtpbclpopoodklaaSI
namespace Go.Proofs.Ytpbclpopoodklaa
set_option linter.unusedSimpArgs false
set_option linter.unusedVariables false
open Go.RowKit
def obN (ns:List Nat) (R:List (List RatD)) (o:Nat):Option (List AV):=match ns.idxOf? o with
  | some i=>(R[i]?).map cQ
  | none=>none
theorem cQ_scr (fb fo:Nat→Bool) (l:List RatD):List.map (scrub fb fo) (cQ l)=cQ l:=by
  unfold cQ
  rw [← scrubs_map]
  exact inert_d _ fb fo
theorem obN_scr (fb fo:Nat→Bool) (ns:List Nat) (R:List (List RatD)) (o:Nat):(obN ns R o).map (List.map (scrub fb fo))=obN ns R o:=by
  unfold obN
  split
  · rename_i i _
    cases R[i]? with
    | none=>rfl
    | some r=>simp only [Option.map_some,cQ_scr]
  · rfl
theorem obN_scrs (fb fo:Nat→Bool) (ns:List Nat) (R:List (List RatD)) (o:Nat):(obN ns R o).map (scrubs fb fo)=obN ns R o:=by
  rw [← scrubs_eq_map];exact obN_scr fb fo ns R o
theorem idx_some {ns:List Nat} {o i:Nat} (h:ns.idxOf? o=some i):i<ns.length∧ns.getD i 0=o:=by
  rw [List.idxOf?,List.findIdx?_eq_some_iff_getElem] at h
  obtain ⟨h1,h2,_⟩:=h
  exact ⟨h1,by simpa [List.getD,h1] using h2⟩
theorem idx_at {ns:List Nat} (hn:ns.Nodup) {i:Nat} (h:i<ns.length):ns.idxOf? (ns.getD i 0)=some i:=by
  have e:ns.getD i 0=ns[i]:=by simp [List.getD,h]
  rw [e,List.idxOf?,List.findIdx?_eq_some_iff_getElem]
  refine ⟨h,by simp,fun k hk=>?_⟩
  have:=List.nodup_iff_pairwise_ne.1 hn
  have h2:=List.pairwise_iff_getElem.1 this k i (by omega) h hk
  simpa using h2
theorem idx_none {ns:List Nat} {o:Nat} (h:o ∉ ns):ns.idxOf? o=none:=by
  rw [List.idxOf?,List.findIdx?_eq_none_iff]
  intro x hx
  simp only [beq_eq_false_iff_ne]
  exact fun e=>h (e ▸ hx)
theorem obN_at {ns:List Nat} {R:List (List RatD)} (hn:ns.Nodup) (hl:R.length=ns.length) {i:Nat} (h:i<ns.length):obN ns R (ns.getD i 0)=some (cQ (mx R i)):=by
  unfold obN
  rw [idx_at hn h]
  have hr:i<R.length:=by omega
  simp only [List.getElem?_eq_getElem hr,Option.map_some,mx_lt hr]
theorem obN_no {ns:List Nat} {R:List (List RatD)} {o:Nat} (h:o ∉ ns):obN ns R o=none:=by
  unfold obN;rw [idx_none h]
theorem obN_snoc {ns:List Nat} {R:List (List RatD)} {r:List RatD} {x o:Nat} (hl:R.length=ns.length) (hx:x ∉ ns):obN (ns ++ [x]) (R ++ [r]) o=if o=x then some (cQ r) else obN ns R o:=by
  unfold obN
  by_cases e:o=x
  · subst e
    rw [if_pos rfl]
    have:(ns ++ [o]).idxOf? o=some ns.length:=by
      rw [List.idxOf?,List.findIdx?_append]
      have:=idx_none hx
      rw [List.idxOf?] at this
      rw [this];simp
    rw [this]
    simp only [← hl,List.getElem?_concat_length,Option.map_some]
  · rw [if_neg e]
    have hxo:¬ x=o:=fun h=>e h.symm
    have hno:List.findIdx? (fun y=>y == o) [x]=none:=by simp [hxo]
    cases h:ns.idxOf? o with
    | none =>
      have:(ns ++ [x]).idxOf? o=none:=by
        rw [List.idxOf?] at h ⊢
        rw [List.findIdx?_append,h,hno];rfl
      rw [this]
    | some i =>
      have:(ns ++ [x]).idxOf? o=some i:=by
        rw [List.idxOf?] at h ⊢
        rw [List.findIdx?_append,h];rfl
      rw [this]
      have hi:=(idx_some h).1
      simp only [List.getElem?_append_left (show i<R.length by omega)]
theorem obN_mem {ns:List Nat} {R:List (List RatD)} (hl:R.length=ns.length) {x:Nat} (hn:ns.Nodup) (h:obN ns R x=none):x ∉ ns:=fun hx=>by
  obtain ⟨i,hi,e⟩:=List.mem_iff_getElem.1 hx
  have:=obN_at (R:=R) hn hl hi
  rw [show ns.getD i 0=x by simp [List.getD,hi,e],h] at this
  cases this
theorem mkB_ex (tl:List (Nat×AV)) (ns:List Nat) (R:List (List RatD)):∃ s:AS,s=⟨lkT tl,obN ns R⟩:=⟨_,rfl⟩
noncomputable def mkB (tl:List (Nat×AV)) (ns:List Nat) (R:List (List RatD)):AS:=Classical.choose (mkB_ex tl ns R)
theorem mkB_eq (tl:List (Nat×AV)) (ns:List Nat) (R:List (List RatD)):mkB tl ns R=⟨lkT tl,obN ns R⟩:=Classical.choose_spec (mkB_ex tl ns R)
theorem mkB_tm (tl:List (Nat×AV)) (ns:List Nat) (R:List (List RatD)) (t:Nat):(mkB tl ns R).tm t=lkT tl t:=by rw [mkB_eq]
theorem mkB_ob (tl:List (Nat×AV)) (ns:List Nat) (R:List (List RatD)) (o:Nat):(mkB tl ns R).ob o=obN ns R o:=by rw [mkB_eq]
theorem sle_mkB {s:AS} {tl:List (Nat×AV)} {ns:List Nat} {R:List (List RatD)} (h1:SOKt s tl) (h2:∀ b,s.ob (nb b)=obN ns R (nb b)) (hn:∀ x∈ns,∃ b,x=nb b):SLe s (mkB tl ns R):=by
  have hs:=sle_mk (ol:=[]) h1 trivial
  have hr:=SLe.refl s
  refine ⟨fun t=>by rw [mkB_tm];exact hs.1 t,fun o l' h=>?_⟩
  rw [mkB_ob] at h
  have hm:o∈ns:=by
    refine Classical.byContradiction fun hc=>?_
    rw [obN_no hc] at h;cases h
  obtain ⟨b,rfl⟩:=hn o hm
  rw [← h2] at h
  exact hr.2 _ _ h
theorem sle_mkB0 {s:AS} {tl:List (Nat×AV)} (h1:SOKt s tl):SLe s (mkB tl [] []):=by
  have hs:=sle_mk (ol:=[]) h1 trivial
  refine ⟨fun t=>by rw [mkB_tm];exact hs.1 t,fun o l' h=>?_⟩
  rw [mkB_ob,obN_no (by simp)] at h
  cases h
structure Mat (n N:Nat) where
  ns:List Nat
  R:List (List RatD)
  hl:ns.length=n
  hs:Shp n N R
  nd:ns.Nodup
  hb:∀ x∈ns,1000000<x
namespace Mat
variable {n N:Nat}
def nm (M:Mat n N) (i:Nat):Nat:=M.ns.getD i 0
def row (M:Mat n N) (i:Nat):List RatD:=mx M.R i
def hdr (M:Mat n N):List AV:=M.ns.map fun x=>.arr x 2 N
end Mat
section
variable {n N:Nat}
theorem nmM_mem {M:Mat n N} {i:Nat} (h:i<n):M.nm i∈M.ns:=by
  have:i<M.ns.length:=by rw [M.hl];exact h
  simp [Mat.nm,List.getD,this]
theorem nmM_ne {M:Mat n N} {i o:Nat} (h:i<n) (ho:o≤1000000):(M.nm i=o)=False:=by
  have:=M.hb _ (nmM_mem (M:=M) h)
  exact eq_false (by omega)
theorem ne_nmM {M:Mat n N} {i o:Nat} (h:i<n) (ho:o≤1000000):(o=M.nm i)=False:=by
  have:=M.hb _ (nmM_mem (M:=M) h)
  exact eq_false (by omega)
theorem nmM_inj {M:Mat n N} {i j:Nat} (h:i<n) (hj:j<n):(M.nm i=M.nm j)=(i=j):=by
  refine propext ⟨fun e=>?_,fun e=>by rw [e]⟩
  have h1:=idx_at M.nd (i:=i) (by rw [M.hl];exact h)
  have h2:=idx_at M.nd (i:=j) (by rw [M.hl];exact hj)
  have e:M.ns.getD i 0=M.ns.getD j 0:=e
  rw [e,h2] at h1
  exact (Option.some.inj h1).symm
theorem nmM_beq {M:Mat n N} {i o:Nat} (h:i<n) (ho:o≤1000000):(M.nm i == o)=false:=by
  rw [beq_eq_false_iff_ne];exact fun e=>(nmM_ne h ho).mp e
theorem hdrM_len (M:Mat n N):M.hdr.length=n:=by simp [Mat.hdr,M.hl]
theorem hdrM_getD {M:Mat n N} {i:Nat} (h:i<n) (d:AV):M.hdr.getD i d=.arr (M.nm i) 2 N:=by
  have:i<M.ns.length:=by rw [M.hl];exact h
  simp [Mat.hdr,Mat.nm,List.getD,this]
theorem rowM_len {M:Mat n N} {i:Nat} (h:i<n):(M.row i).length=N:=M.hs.2 i h
theorem hdrM_scr {fb fo:Nat→Bool} {M:Mat n N} (h:∀ x,1000000<x→fo x=true):List.map (scrub fb fo) M.hdr=M.hdr:=by
  unfold Mat.hdr
  rw [List.map_map]
  apply List.map_congr_left
  intro x hx
  simp only [Function.comp_apply,scrub]
  rw [if_pos (h x (M.hb x hx))]
theorem hdrM_sm {fb:Nat→Bool} {d:Nat} (M:Mat n N) (h:d≤1000000):List.map (scrub fb (fun o=>!(o == d))) M.hdr=M.hdr:=hdrM_scr fun x hx=>by
  have:(x == d)=false:=by rw [beq_eq_false_iff_ne];omega
  rw [this];rfl
theorem hdrM_ss {fb:Nat→Bool} {d:Nat} (M:Mat n N) (h:d≤1000000):scrubs fb (fun o=>!(o == d)) M.hdr=M.hdr:=by rw [scrubs_map];exact hdrM_sm M h
theorem hdrM_tm {fb:Nat→Bool} (M:Mat n N):List.map (scrub fb (fun _=>true)) M.hdr=M.hdr:=hdrM_scr fun _ _=>rfl
def swapL {α:Type} (l:List α) (i j:Nat) (d:α):List α:=(l.set j (l.getD i d)).set i (l.getD j d)
theorem swapL_len {α:Type} (l:List α) (i j:Nat) (d:α):(swapL l i j d).length=l.length:=by simp [swapL]
theorem swapL_at {α:Type} {l:List α} {i j:Nat} {d:α} (hi:i<l.length) (hj:j<l.length) (k:Nat):(swapL l i j d).getD k d=l.getD (if k=i then j else if k=j then i else k) d:=by
  unfold swapL
  simp only [List.getD,List.getElem?_set,List.length_set]
  by_cases h1:i=k
  · subst h1;simp [hi]
  · have h1':¬ k=i:=fun e=>h1 e.symm
    rw [if_neg h1,if_neg h1']
    by_cases h2:j=k
    · subst h2;simp [hj]
    · have h2':¬ k=j:=fun e=>h2 e.symm
      rw [if_neg h2,if_neg h2']
theorem getD_mem {l:List Nat} {i:Nat} (h:i<l.length):l.getD i 0∈l:=by simp [List.getD,h]
theorem nodup_inj {l:List Nat} (hn:l.Nodup) {i j:Nat} (hi:i<l.length) (hj:j<l.length) (e:l.getD i 0=l.getD j 0):i=j:=by
  have h1:=idx_at hn hi
  have h2:=idx_at hn hj
  rw [e,h2] at h1
  exact (Option.some.inj h1).symm
namespace Mat
def swap (M:Mat n N) (i j:Nat) (hi:i<n) (hj:j<n):Mat n N where
  ns:=swapL M.ns i j 0
  R:=swapL M.R i j []
  hl:=by rw [swapL_len,M.hl]
  hs:=by
    refine ⟨by rw [swapL_len,M.hs.1],fun k hk=>?_⟩
    show ((swapL M.R i j []).getD k []).length=N
    rw [swapL_at (by rw [M.hs.1];exact hi) (by rw [M.hs.1];exact hj)]
    exact M.hs.2 _ (by split <;> (try split) <;> omega)
  nd:=by
    have hl:=M.hl
    rw [List.nodup_iff_pairwise_ne,List.pairwise_iff_getElem]
    intro a b ha hb hab e
    rw [swapL_len] at ha hb
    have ea:(swapL M.ns i j 0).getD a 0=(swapL M.ns i j 0).getD b 0:=by simp [List.getD,swapL_len,ha,hb,e]
    rw [swapL_at (by omega) (by omega),swapL_at (by omega) (by omega)] at ea
    have:=nodup_inj M.nd (by split <;> (try split) <;> omega) (by split <;> (try split) <;> omega) ea
    revert this
    split <;> (try split) <;> (try split) <;> (try split) <;> omega
  hb:=by
    have hl:=M.hl
    intro x hx
    obtain ⟨a,ha,rfl⟩:=List.mem_iff_getElem.1 hx
    have ha2:a<M.ns.length:=by rw [swapL_len] at ha;exact ha
    have e:(swapL M.ns i j 0)[a]=(swapL M.ns i j 0).getD a 0:=by simp [List.getD,ha]
    rw [e,swapL_at (by omega) (by omega)]
    exact M.hb _ (getD_mem (by split <;> (try split) <;> omega))
def withR (M:Mat n N) (R:List (List RatD)) (h:Shp n N R):Mat n N:=⟨M.ns,R,M.hl,h,M.nd,M.hb⟩
end Mat
theorem swapM_nm {M:Mat n N} {i j:Nat} (hi:i<n) (hj:j<n) (k:Nat):(M.swap i j hi hj).nm k=M.nm (if k=i then j else if k=j then i else k):=swapL_at (by rw [M.hl];exact hi) (by rw [M.hl];exact hj) k
theorem swapM_row {M:Mat n N} {i j:Nat} (hi:i<n) (hj:j<n) (k:Nat):(M.swap i j hi hj).row k=M.row (if k=i then j else if k=j then i else k):=swapL_at (by rw [M.hs.1];exact hi) (by rw [M.hs.1];exact hj) k
theorem swapM_hdr {M:Mat n N} {i j:Nat} (hi:i<n) (hj:j<n):(M.hdr.set j (.arr (M.nm i) 2 N)).set i (.arr (M.nm j) 2 N)=(M.swap i j hi hj).hdr:=by
  simp only [Mat.hdr,Mat.swap,swapL,Mat.nm,List.map_set]
theorem obsOK_mk {s:AS} {ns:List Nat}:∀ {l:List Nat} {os:List (List AV)},os.length=l.length→(∀ (i:Nat) (m':List AV),os[i]? = some m'→∃ m,s.ob (l.getD i 0)=some m∧ASubs ns m m')→ObsOK s ns l os
  | [],os,h,_=>List.eq_nil_of_length_eq_zero (by simpa using h)
  | n :: l,[],h,_=>by simp at h
  | n :: l,o :: os,h,hh=>by
    obtain ⟨m,h1,h2⟩:=hh 0 o (by simp)
    exact ⟨m,o,os,rfl,by simpa using h1,h2,obsOK_mk (by simpa using h) fun i m' hm=>by simpa using hh (i+1) m' (by simpa using hm)⟩
theorem asubs_mk {ns:List Nat}:∀ {l m:List AV},l.length=m.length→(∀ (i:Nat) (x y:AV),l[i]? = some x→m[i]? = some y→ASub ns x y)→ASubs ns l m
  | [],m,h,_=>by rw [List.eq_nil_of_length_eq_zero (l:=m) (by simpa using h.symm)];exact .nil
  | x :: l,[],h,_=>by simp at h
  | x :: l,y :: m,h,hh=>.cons (hh 0 x y (by simp) (by simp)) (asubs_mk (by simpa using h) fun i a b ha hb=>hh (i+1) a b (by simpa using ha) (by simpa using hb))
theorem asubs_cQ (ns:List Nat) (l:List RatD):ASubs ns (cQ l) (cQ l):=asubs_mk rfl fun i x y hx hy=>by
  rw [hx] at hy;cases hy
  unfold cQ at hx
  obtain ⟨z,hz,rfl⟩:=List.mem_map.1 (List.mem_of_getElem? hx)
  exact .d z
theorem renAs_map (ns:List Nat) (d:Nat) (l:List AV):renAs ns d l=l.map (renA ns d):=by
  induction l with
  | nil=>rfl
  | cons x l ih=>simp [renAs,ih]
theorem renAs_cQ (ns:List Nat) (d:Nat) (l:List RatD):renAs ns d (cQ l)=cQ l:=by
  rw [renAs_map]
  unfold cQ
  rw [List.map_map]
  rfl
theorem asubs_hdr (M:Mat n N):ASubs (500000 :: M.ns) M.hdr (mC0 n N):=asubs_mk (by simp [hdrM_len,mC0]) fun i x y hx hy=>by
  unfold Mat.hdr at hx
  unfold mC0 at hy
  simp only [List.getElem?_map] at hx hy
  have hi:i<n:=by
    cases h:(List.range n)[i]? with
    | none=>rw [h] at hy;cases hy
    | some z=>have:=(List.getElem?_eq_some_iff.1 h).1;simpa using this
  have hi2:i<M.ns.length:=by rw [M.hl];exact hi
  rw [List.getElem?_eq_getElem hi2] at hx
  rw [List.getElem?_range hi] at hy
  cases hx;cases hy
  exact .arr _ (i+1) 2 N (by simp [hi2])
theorem renAs_hdr (M:Mat n N) (d:Nat):renAs (500000 :: M.ns) d (mC0 n N)=M.hdr:=by
  rw [renAs_map]
  apply List.ext_getElem
  · simp [mC0,hdrM_len]
  · intro i h1 h2
    have hi:i<n:=by simpa [hdrM_len] using h2
    have hi2:i<M.ns.length:=by rw [M.hl];exact hi
    simp [mC0,Mat.hdr,renA,List.getD,M.hl,hi,hi2]
theorem obSel_at {ns:List Nat} {os:List (List AV)} (hn:ns.Nodup) (hl:ns.length≤os.length) {i:Nat} {l:List AV} (hi:i<ns.length) (ho:os[i]? = some l):obSel ns os (ns.getD i 0)=some l:=by
  cases h:obSel ns os (ns.getD i 0) with
  | none=>exact absurd rfl (obSel_none hl h i hi)
  | some l' =>
    obtain ⟨j,h1,h2,h3⟩:=obSel_some h
    have:=nodup_inj hn h1 hi h2
    rw [this,ho] at h3
    exact h3.symm
section
variable {M:Mat n N} {s:AS} {d:Nat}
theorem nsM_nd (M:Mat n N):(500000 :: M.ns).Nodup:=List.nodup_cons.2 ⟨fun h=>by have:=M.hb _ h;omega,M.nd⟩
theorem acall_mat {K:AS→Prop} {f:FuncId} {avs args:List AV} {R:AV→List (List AV)→Prop} (hA:AFn f args (mC0 n N :: M.R.map cQ) R) (hsub:ASubs (500000 :: M.ns) avs args) (hlt:d<500000) (h0:s.ob 500000=some M.hdr) (h1:∀ i,i<n→s.ob (M.nm i)=some (cQ (M.row i)))
    (h:∀ r os,R r os→os.length≤n+2∧K ((s.call (500000 :: M.ns) d os).put d (renA (500000 :: M.ns) d r))):ACall f avs s (some d) K:=by
  have hl:=M.hl
  have hR:=M.hs.1
  refine ⟨d,500000 :: M.ns,args,_,R,rfl,by omega,hA,hsub,obsOK_mk (by simp [hl,hR]) fun i m' hm=>?_,fun i hi e=>?_,fun i j hi hj e=>nodup_inj (nsM_nd M) hi hj e,fun r os hr=>⟨by simp only [List.length_cons,hl];exact (h r os hr).1,(h r os hr).2⟩⟩
  · cases i with
    | zero =>
      simp at hm;subst hm
      exact ⟨_,h0,asubs_hdr M⟩
    | succ i =>
      simp only [List.getElem?_cons_succ,List.getElem?_map] at hm
      cases hr:M.R[i]? with
      | none=>rw [hr] at hm;cases hm
      | some r =>
        rw [hr] at hm
        cases hm
        have hi:=(List.getElem?_eq_some_iff.1 hr).1
        refine ⟨_,h1 i (by omega),?_⟩
        have:M.row i=r:=by rw [Mat.row,mx_lt hi];exact (List.getElem?_eq_some_iff.1 hr).2
        rw [this];exact asubs_cQ _ _
  · have hm:=getD_mem hi
    rw [e] at hm
    rcases List.mem_cons.1 hm with hm | hm
    · omega
    · have:=M.hb _ hm;omega
theorem callM_h (hlt:d<500000) (R':List (List RatD)):(s.call (500000 :: M.ns) d (mC0 n N :: R'.map cQ)).ob 500000=some M.hdr:=by
  simp only [AS.call]
  rw [if_neg (by omega)]
  simp only [obSel,if_true,renAs_hdr]
theorem callM_r (hlt:d<500000) {R':List (List RatD)} (hR:R'.length=n) {i:Nat} (hi:i<n):(s.call (500000 :: M.ns) d (mC0 n N :: R'.map cQ)).ob (M.nm i)=some (cQ (mx R' i)):=by
  have hb:=M.hb _ (nmM_mem (M:=M) hi)
  simp only [AS.call]
  rw [if_neg (by omega)]
  have hi3:i<R'.length:=by omega
  have:=obSel_at (ns:=500000 :: M.ns) (os:=mC0 n N :: R'.map cQ) (nsM_nd M) (by simp [M.hl,hR]) (i:=i+1) (l:=cQ (mx R' i)) (by simp [M.hl,hi]) (by simp [hi3,mx_lt hi3])
  have e:(500000 :: M.ns).getD (i+1) 0=M.nm i:=by simp [Mat.nm]
  rw [e] at this
  rw [this]
  simp only [renAs_cQ]
theorem callM_tm (ns:List Nat) (os:List (List AV)) (t:Nat):(s.call ns d os).tm t=scrub (fun g=>!(g == d)) (fun o=>!(o == d)) (s.tm t):=rfl
end
def mkM0 (tl:List (Nat×AV)) (ol:List (Nat×List AV)) (M:Mat n N):AS :=
  ⟨lkT tl,fun o=>if o=500000 then some M.hdr else if 1000000<o then obN M.ns M.R o else lkO ol o⟩
theorem mkM_ex (tl:List (Nat×AV)) (ol:List (Nat×List AV)) (M:Mat n N):∃ s:AS,s=mkM0 tl ol M:=⟨_,rfl⟩
noncomputable def mkM (tl:List (Nat×AV)) (ol:List (Nat×List AV)) (M:Mat n N):AS:=Classical.choose (mkM_ex tl ol M)
theorem mkM_eq (tl:List (Nat×AV)) (ol:List (Nat×List AV)) (M:Mat n N):mkM tl ol M=mkM0 tl ol M:=Classical.choose_spec (mkM_ex tl ol M)
theorem mkM_tm (tl:List (Nat×AV)) (ol:List (Nat×List AV)) (M:Mat n N) (t:Nat):(mkM tl ol M).tm t=lkT tl t:=by rw [mkM_eq];rfl
theorem mkM_obh (tl:List (Nat×AV)) (ol:List (Nat×List AV)) (M:Mat n N):(mkM tl ol M).ob 500000=some M.hdr:=by rw [mkM_eq];rfl
theorem mkM_obr {tl:List (Nat×AV)} {ol:List (Nat×List AV)} {M:Mat n N} {i:Nat} (h:i<n):(mkM tl ol M).ob (M.nm i)=some (cQ (M.row i)):=by
  have hb:=M.hb _ (nmM_mem (M:=M) h)
  rw [mkM_eq]
  simp only [mkM0]
  rw [if_neg (by omega),if_pos hb]
  exact obN_at M.nd (by rw [M.hs.1,M.hl]) (by rw [M.hl];exact h)
theorem mkM_obl {tl:List (Nat×AV)} {ol:List (Nat×List AV)} {M:Mat n N} {o:Nat} (h:o<500000):(mkM tl ol M).ob o=lkO ol o:=by
  rw [mkM_eq]
  simp only [mkM0]
  rw [if_neg (by omega),if_neg (by omega)]
theorem sle_mkM {s:AS} {tl:List (Nat×AV)} {ol:List (Nat×List AV)} {M:Mat n N} (h1:SOKt s tl) (h2:SOKo s ol) (h3:s.ob 500000=some M.hdr) (h4:∀ i,i<n→s.ob (M.nm i)=some (cQ (M.row i))):SLe s (mkM tl ol M):=by
  have hs:=sle_mk h1 h2
  have hr:=SLe.refl s
  rw [mkM_eq]
  refine ⟨hs.1,fun o l' h=>?_⟩
  change (if o=500000 then some M.hdr else if 1000000<o then obN M.ns M.R o else lkO ol o)=some l' at h
  split at h
  · rename_i e
    cases h
    subst e
    exact hr.2 _ _ h3
  · split at h
    · rename_i e2
      cases hi:M.ns.idxOf? o with
      | none=>unfold obN at h;rw [hi] at h;cases h
      | some i =>
        obtain ⟨g1,g2⟩:=idx_some hi
        have hin:i<n:=by rw [← M.hl];exact g1
        have h5:=h4 i hin
        have e3:M.nm i=o:=g2
        rw [e3] at h5
        unfold obN at h
        rw [hi] at h
        have hR:i<M.R.length:=by rw [M.hs.1];exact hin
        simp only [List.getElem?_eq_getElem hR,Option.map_some,Option.some.injEq] at h
        subst h
        have e4:M.row i=M.R[i]:=mx_lt hR
        rw [e4] at h5
        exact hr.2 _ _ h5
    · exact hs.2 _ _ h
end
def OKM (o:Nat):AV→Prop
  | .junk=>True
  | .d x=>plainD x=true
  | .nil=>True
  | .ptr q _=>q ≠ o
  | .arr q _ _=>q ≠ o
  | .cst _=>True
  | _=>False
theorem OKM.cv {G:Gh} {w:World} {g o b0:Nat}:∀ {x:AV} {v:Value},OKM o x→CV G w x v→CV (thG G g o b0) w x v
  | .junk,_,_,_=>trivial
  | .d x,v,h,hv=>by
    obtain ⟨us,h1,h2⟩:=hv
    exact ⟨us,plain_cx h h1,h2⟩
  | .nil,_,_,hv=>hv
  | .cst _,_,_,hv=>hv
  | .ptr q i,v,h,hv=>by
    simp only [CV,thG] at hv ⊢
    rw [if_neg h];exact hv
  | .arr q k m,v,h,hv=>by
    simp only [CV,thG] at hv ⊢
    rw [if_neg h];exact hv
theorem OKMs.cv {G:Gh} {w:World} {g o b0:Nat}:∀ {l:List AV} {us:List Value},(∀ x∈l,OKM o x)→CVs G w l us→CVs (thG G g o b0) w l us
  | [],_,_,h=>h
  | x :: l,us,h,hv=>by
    obtain ⟨v,us',e,h1,h2⟩:=hv
    exact ⟨v,us',e,OKM.cv (h x (List.mem_cons_self ..)) h1,OKMs.cv (fun y hy=>h y (List.mem_cons_of_mem _ hy)) h2⟩
theorem awp_thawM {P:Cx→Prop} {N:Nat} {c:Code} {Q:Exit→AS→Prop} {s:AS} (t g o k:Nat) {T:TypeId} {l:List DV} {cells:List AV} (hN:t<N) (h0:s.tm t=.buf g T k l) (hne:l ≠ []) (hk:0<k) (hel:elemsOK k l=true) (ho:s.ob o=none) (hlt:o<1000000)
    (hcl:∀ (X:Cx) (G:Gh) (a:Act) (w:World) (us:List Value),P X→RelG X G s a w→CXk G.C w 1 (flatD l) us→∀ G':Gh,(∀ q,q ≠ o→G'.ad q=G.ad q)→CVs G' w cells us)
    (hT:∀ t',t' ≠ t→OKM o (s.tm t')) (hO:∀ q l',s.ob q=some l'→∀ x∈l',OKM o x) (h:AWp P N c Q ((s.put t (.arr o k l.length)).setOb o (some cells))):AWp P N c Q s:=by
  intro X a w hNX hP ⟨G,hr⟩
  have hb:=hr.tm t (by rw [hNX];exact hN)
  rw [h0] at hb
  obtain ⟨h1,h2,h3,h4⟩:=hb
  obtain ⟨a0,n,c0,vs,e1,e2,e3⟩:=hr.bf g
  obtain ⟨a',n',c',vs',e4,e5,e6,e7⟩:=wh_sl h4
  rw [h1,e1] at e4
  simp only [List.cons.injEq,Value.slice.injEq,and_true] at e4
  obtain ⟨rfl,rfl,rfl⟩:=e4
  have hn:0<n:=by rw [← e5];exact List.length_pos_iff.2 hne
  obtain ⟨b0,rfl,hg1,hg2⟩:=e2.head hn
  obtain ⟨b7,off7,ha7,hc7⟩:=e7.2.2.2.2.2 hn
  simp only [Option.some.injEq,Addr.mk.injEq,and_true] at ha7
  obtain ⟨rfl,rfl⟩:=ha7
  have hfl:=cxk_flat hel e6
  have hown:(G.hd g).ownBlock=some b0:=by rw [e1];rfl
  have hob':∀ q,((s.put t (.arr o k l.length)).setOb o (some cells)).ob q=if q=o then some cells else s.ob q:=fun q=>rfl
  have hne':∀ q,((s.put t (.arr o k l.length)).setOb o (some cells)).ob q ≠ none→q=o∨(q ≠ o∧s.ob q ≠ none):=fun q hq=>by
    rw [hob'] at hq
    by_cases e:q=o
    · exact .inl e
    · rw [if_neg e] at hq;exact .inr ⟨e,hq⟩
  have hado:(thG G g o b0).ad o=b0:=by simp [thG]
  have hadq:∀ q,q ≠ o→(thG G g o b0).ad q=G.ad q:=fun q hq=>by simp [thG,hq]
  refine h X a w hNX hP ⟨thG G g o b0,hr.fr,hr.df,hr.n,fun t' ht'=>?_,fun q=>?_,fun q l' hq=>?_,fun b i hc=>hr.cs b i hc.1,fun g1 g2 hg e=>?_,fun q q' h5 h6 e=>?_,fun q g1 h5=>?_,fun q h5=>?_,fun b i hc hb=>hr.lc b i hc.1 hb,fun b i hc=>hr.nl b i hc.1,fun i h5=>?_,fun b i hc=>⟨hr.c0 b i hc,?_⟩,fun b i hc hz=>hr.uf b i hc.1 hz⟩
  · show CV _ w (if t'=t then _ else s.tm t') _
    by_cases e:t'=t
    · subst e
      rw [if_pos rfl]
      refine ⟨c0,?_,by rw [e5];exact e7.2.1,e7.2.2.1⟩
      rw [hado,h1,e1,e5]
    · rw [if_neg e]
      exact OKM.cv (hT t' e) (hr.tm t' ht')
  · show BufOK (thG G g o b0) _ w q
    by_cases e:q=g
    · exact ⟨none,0,0,[],by simp [thG,e],ownF_nil _ _ _ _,fun b hb=>by cases hb⟩
    · obtain ⟨a1,n1,c1,vs1,f1,f2,f3⟩:=hr.bf q
      exact ⟨a1,n1,c1,vs1,by simp [thG,e,f1],f2,fun b hb i=>⟨fun hc=>(f3 b hb i).1 hc.1,fun hci=>⟨(f3 b hb i).2 hci,fun e9=>e (by
        rw [e9] at hb;subst hb
        by_cases e10:q=g
        · exact e10
        · have hq1:(G.hd q).ownBlock=some b0:=by rw [f1];rfl
          have:=hr.d1 q g e10 (hq1.trans hown.symm)
          rw [hq1] at this;cases this)⟩⟩⟩
  · rw [hob'] at hq
    by_cases e:q=o
    · rw [if_pos e] at hq
      cases hq
      subst e
      refine ⟨by rw [hado];exact hg2,fun i hc=>by rw [hado] at hc;exact hc.2 rfl,vs',hcl X G a w vs' hP hr hfl _ hadq,e7.2.2.2.2.1,fun i u hu=>?_⟩
      rw [hado]
      exact ⟨by simpa using (hc7 i u hu).2,e2.free i⟩
    · rw [if_neg e] at hq
      obtain ⟨g1,g2,us,g3,g4,g5⟩:=hr.ob q l' hq
      refine ⟨by rw [hadq q e];exact g1,fun i hc=>by rw [hadq q e] at hc;exact g2 i hc.1,us,OKMs.cv (hO q l' hq) g3,g4,by rw [hadq q e];exact g5⟩
  · simp only [thG] at e ⊢
    by_cases e8:g1=g
    · rw [if_pos e8];rfl
    · rw [if_neg e8] at e ⊢
      by_cases e9:g2=g
      · rw [if_pos e9] at e;exact e
      · rw [if_neg e9] at e;exact hr.d1 g1 g2 hg e
  · rcases hne' q h5 with r1 | ⟨r1,r2⟩ <;> rcases hne' q' h6 with r3 | ⟨r3,r4⟩
    · rw [r1,r3]
    · rw [r1,hado,hadq q' r3] at e
      exact absurd (by rw [hown,e]) (hr.d3 q' g r4)
    · rw [r3,hado,hadq q r1] at e
      exact absurd (by rw [hown,← e]) (hr.d3 q g r2)
    · rw [hadq q r1,hadq q' r3] at e
      exact hr.d2 q q' r2 r4 e
  · intro e
    simp only [thG] at e
    by_cases e8:g1=g
    · rw [if_pos e8] at e;cases e
    · rw [if_neg e8] at e
      by_cases e9:q=o
      · rw [if_pos e9] at e
        have:=hr.d1 g1 g e8 (by rw [e,hown])
        rw [this] at e;cases e
      · rw [if_neg e9] at e
        rcases hne' q h5 with r1 | ⟨_,r2⟩
        · exact e9 r1
        · exact hr.d3 q g1 r2 e
  · rcases hne' q h5 with r1 | ⟨r1,r2⟩
    · rw [r1,hado];exact ⟨fun _=>hg1,.inl hg1⟩
    · rw [hadq q r1];exact hr.ow q r2
  · rcases hne' _ h5 with r1 | ⟨r1,r2⟩
    · omega
    · rw [hadq _ r1];exact hr.ln i r2
  · have:=X.hC b i hc
    omega
inductive HdOK (N:Nat):List DV→List Nat→Prop where
  | nil:HdOK N [] []
  | snoc {hs:List DV} {ns:List Nat} {b c:Nat}:HdOK N hs ns→N≤c→c≤maxLen→HdOK N (hs ++ [hdV b N c]) (ns ++ [nb b])
theorem HdOK.len {N:Nat} {hs:List DV} {ns:List Nat} (h:HdOK N hs ns):hs.length=ns.length:=by
  induction h with
  | nil=>rfl
  | snoc _ _ _ ih=>simp [ih]
theorem HdOK.el {N:Nat} {hs:List DV} {ns:List Nat} (h:HdOK N hs ns):elemsOK 1 hs=true∧flatD hs=hs:=by
  induction h with
  | nil=>exact ⟨rfl,rfl⟩
  | snoc _ _ _ ih =>
    refine ⟨?_,?_⟩
    · have:=ih.1
      simp only [elemsOK,List.all_append,List.all_cons,List.all_nil,Bool.and_true,Bool.and_eq_true] at this ⊢
      exact ⟨this,rfl,rfl⟩
    · have:=ih.2
      simp only [flatD,List.map_append,List.flatten_append] at this ⊢
      rw [this];rfl
theorem HdOK.nbs {N:Nat} {hs:List DV} {ns:List Nat} (h:HdOK N hs ns):∀ x∈ns,∃ b,x=nb b:=by
  induction h with
  | nil=>intro x hx;cases hx
  | snoc _ _ _ ih =>
    intro x hx
    rcases List.mem_append.1 hx with h | h
    · exact ih x h
    · exact ⟨_,by simpa using h⟩
theorem HdOK.cvs {N:Nat} {hs:List DV} {ns:List Nat} (h:HdOK N hs ns) {C:Nat→Nat→Prop} {G':Gh} {w:World}:(∀ b,nb b∈ns→G'.ad (nb b)=b)→∀ us,CXk C w 1 hs us→CVs G' w (ns.map fun x=>.arr x 2 N) us:=by
  induction h with
  | nil=>intro _ us h;exact h
  | snoc h1 h2 h3 ih =>
    rename_i hs ns b c
    intro hG us hu
    have hsplit:∀ (l:List DV) (us:List Value),CXk C w 1 (l ++ [hdV b N c]) us→∃ us',us=us' ++ [.slice (some ⟨b,0,none⟩) N c]∧CXk C w 1 l us':=by
      intro l
      induction l with
      | nil =>
        rintro us ⟨u,v,rfl,⟨rfl,_⟩,_,rfl⟩
        exact ⟨[],rfl,rfl⟩
      | cons x l ih =>
        rintro us ⟨u,v,rfl,q1,q2,q3⟩
        obtain ⟨us',rfl,q4⟩:=ih v q3
        exact ⟨u ++ us',by simp,u,us',rfl,q1,q2,q4⟩
    obtain ⟨us',rfl,q⟩:=hsplit hs us hu
    rw [List.map_append]
    refine CVs.app (ih (fun b' hb'=>hG b' (List.mem_append_left _ hb')) us' q) ⟨_,[],rfl,⟨c,?_,h2,h3⟩,rfl⟩
    rw [hG b (List.mem_append_right _ (List.mem_cons_self ..))]
theorem awp_matM {P:Cx→Prop} {K:Nat} {c:Code} {Q:Exit→AS→Prop} {tl tl':List (Nat×AV)} {n N g:Nat} {T:TypeId} {hs:List DV} (t:Nat) (M:Mat n N) (hA:∀ X,P X→NamedB X) (hN:t<K) (h0:lkT tl t=.buf g T 1 hs) (hH:HdOK N hs M.ns) (hn:0<n)
    (hT:∀ t',t' ≠ t→OKM 500000 (lkT tl t')) (hS:SOKt ((mkB tl M.ns M.R).put t (.arr 500000 1 n)) tl') (h:AWp P K c Q (mkM tl' [] M)):AWp P K c Q (mkB tl M.ns M.R):=by
  have hlen:hs.length=n:=by rw [hH.len,M.hl]
  have hnot:∀ o,o≤1000000→obN M.ns M.R o=none:=fun o ho=>obN_no fun hm=>by
    have:=M.hb o hm
    omega
  refine awp_thawM (cells:=M.hdr) t g 500000 1 hN (by rw [mkB_tm];exact h0) (fun e=>by rw [e] at hlen;simp at hlen;omega) (by decide) hH.el.1 (by rw [mkB_ob];exact hnot _ (by decide)) (by decide) ?_ (fun t' ht'=>by rw [mkB_tm];exact hT t' ht') (fun q l' hq x hx=>?_) ?_
  · intro X G a w us hP hr hu G' hG'
    rw [hH.el.2] at hu
    refine hH.cvs (fun b hb=>?_) us hu
    have hne:nb b ≠ 500000:=by rw [nb_eq];omega
    rw [hG' _ hne]
    have hob:(mkB tl M.ns M.R).ob (1000000+(1000000+b)) ≠ none:=by
      rw [mkB_ob,← nb_eq]
      obtain ⟨i,hi,e⟩:=List.mem_iff_getElem.1 hb
      have e2:M.ns.getD i 0=nb b:=by simp [List.getD,hi,e]
      rw [← e2,obN_at M.nd (by rw [M.hs.1,M.hl]) hi]
      exact fun x=>(by cases x)
    have:=hr.ln _ hob
    rw [hA X hP,← nb_eq] at this
    exact this
  · rw [mkB_ob] at hq
    unfold obN at hq
    split at hq
    · cases hR:M.R[‹Nat›]? with
      | none=>rw [hR] at hq;cases hq
      | some r =>
        rw [hR] at hq
        simp only [Option.map_some,Option.some.injEq] at hq
        subst hq
        obtain ⟨y,hy,rfl⟩:=List.mem_map.1 hx
        have hint:∀ (l:List RatD),∀ y∈flatD (l.map ratDV),plainD y=true:=fun l=>by
          induction l with
          | nil=>intro y hy;cases hy
          | cons z l ih =>
            intro y hy
            have e:flatD ((z :: l).map ratDV)=.int z.num :: .int z.den :: flatD (l.map ratDV):=rfl
            rw [e] at hy
            rcases List.mem_cons.1 hy with rfl | hy
            · rfl
            · rcases List.mem_cons.1 hy with rfl | hy
              · rfl
              · exact ih y hy
        exact hint r y hy
    · cases hq
  · have hsk:∀ (l:List (Nat×AV)) (s s':AS),s'.tm=s.tm→SOKt s l→SOKt s' l:=fun l s s' e=>by
      induction l with
      | nil=>exact fun h=>h
      | cons p l ih=>exact fun h=>⟨by rw [e];exact h.1,ih h.2⟩
    refine awp_weak (sle_mkM (ol:=[]) ?_ trivial ?_ (fun i hi=>?_)) h
    · rw [hlen]
      have h9:=hsk tl' ((mkB tl M.ns M.R).put t (.arr 500000 1 n)) (((mkB tl M.ns M.R).put t (.arr 500000 1 n)).setOb 500000 (some M.hdr)) rfl hS
      exact h9
    · show (if (500000:Nat)=500000 then some M.hdr else (mkB tl M.ns M.R).ob 500000)=some M.hdr
      rw [if_pos rfl]
    · have hb:=M.hb _ (nmM_mem (M:=M) hi)
      show (if M.nm i=500000 then some M.hdr else (mkB tl M.ns M.R).ob (M.nm i))=_
      rw [if_neg (by omega),mkB_ob]
      exact obN_at M.nd (by rw [M.hs.1,M.hl]) (by rw [M.hl];exact hi)
theorem rowSt_tm (ob:Nat→Option (List AV)) (sx:Nat→AV) (tr b c n:Nat) (cells:List AV) (t:Nat):(rowSt ob sx tr b c n cells).tm t=if t=tr then .d (hdV b n c) else scrub (fun _=>true) (fun o=>!(o == nb b)) (sx t):=rfl
theorem rowSt_ob (ob:Nat→Option (List AV)) (sx:Nat→AV) (tr b c n:Nat) (cells:List AV) (o:Nat):(rowSt ob sx tr b c n cells).ob o=if o=nb b then some cells else (ob o).map (List.map (scrub (fun _=>true) (fun o=>!(o == nb b)))):=rfl
theorem keptT_eq (ds:List Nat) (d0:Nat) (x0:AV) (s:AS) (t:Nat):keptT ds d0 x0 s t=if t=d0 then x0 else if ds.contains t=true then .junk else s.tm t:=rfl
theorem cQ_scrs (fb fo:Nat→Bool) (l:List RatD):scrubs fb fo (cQ l)=cQ l:=by rw [scrubs_map];exact cQ_scr fb fo l
attribute [go_sem] rowSt_tm rowSt_ob keptT_eq cQ_scr cQ_scrs List.contains_cons List.contains_nil Bool.false_or Bool.or_false nb_ne ne_nb nb_inj nb_beq beq_nb obN_scr obN_scrs mkB_tm mkB_ob nmM_ne ne_nmM nmM_inj nmM_beq hdrM_len hdrM_getD hdrM_sm hdrM_ss hdrM_tm mkM_tm mkM_obh mkM_obr mkM_obl
end Go.Proofs.Ytpbclpopoodklaa
