/- Lemmas for the proof of FnExactMaximize, part 3 of 56: no condition of their own. -/
import Derived.Test.YtpbclpopoodklaaRV
namespace Go.Proofs.Ytpbclpopoodklaa
set_option linter.unusedSimpArgs false
set_option linter.unusedVariables false
open Go.RowKit
inductive DV where
  | int (x:Int)
  | byte (x:Int)
  | bool (b:Bool)
  | str (s:ByteArray)
  | agg (l:List DV)
  | sl (k:Nat) (l:List DV)
  | wh (k:Nat) (l:List DV)
  | nl
  | hv (v:Value)
def FlatS (C:Nat→Nat→Prop) (w:World) (a:Option Addr) (n c k:Nat) (vs:List Value):Prop :=
  vs.length=n*k∧n≤c∧c≤maxLen∧(a=none→c=0)∧(∀ u∈vs,u.oneCell'=true) ∧
  (0<n→∃ b off,a=some ⟨b,off,none⟩∧∀ i u,vs[i]? = some u→C b (off+i)∧w.cell? ⟨b,off+i,none⟩=some u)
def Tag (C:Nat→Nat→Prop) (b:Nat):Prop:=∃ N,∀ i,N≤i→C b i
def leafV:Value→Prop:=fun v=>v.oneCell'=true
mutual
def CX (C:Nat→Nat→Prop) (w:World):DV→List Value→Prop
  | .int x,us=>us=[.int .i64 x]∧I64 x
  | .byte x,us=>us=[.int .u8 x]∧0≤x∧x≤255
  | .bool b,us=>us=[.bool b]
  | .str s,us=>us=[.string s]
  | .agg m,us=>CXs C w m us
  | .sl k l,us=>∃ a n c vs,us=[.slice a n c]∧l.length=n∧CXk C w k l vs∧FlatS C w a n c k vs
  | .wh k l,us=>∃ a n c vs,us=[.slice a n c]∧l.length=n∧CXk C w k l vs∧FlatS C w a n c k vs∧(0<n→∃ b,a=some ⟨b,0,none⟩∧Tag C b)
  | .nl,us=>us=[.slice none 0 0]
  | .hv v,us=>us=[v]∧v.oneCell'=true
def CXs (C:Nat→Nat→Prop) (w:World):List DV→List Value→Prop
  | [],us=>us=[]
  | x :: m,us=>∃ u v,us=u ++ v∧CX C w x u∧CXs C w m v
def CXk (C:Nat→Nat→Prop) (w:World) (k:Nat):List DV→List Value→Prop
  | [],us=>us=[]
  | x :: m,us=>∃ u v,us=u ++ v∧CX C w x u∧u.length=k∧CXk C w k m v
end
def Stay (C C':Nat→Nat→Prop) (w w':World):Prop:=∀ b o,C b o→C' b o∧w'.cell? ⟨b,o,none⟩=w.cell? ⟨b,o,none⟩
theorem Stay.refl (C:Nat→Nat→Prop) (w:World):Stay C C w w:=fun _ _ h=>⟨h,rfl⟩
theorem Stay.trans {C C' C'':Nat→Nat→Prop} {w w' w'':World} (h:Stay C C' w w') (k:Stay C' C'' w' w''):Stay C C'' w w'':=fun b o hc=>⟨(k b o (h b o hc).1).1,(k b o (h b o hc).1).2.trans (h b o hc).2⟩
theorem FlatS.stay {C C':Nat→Nat→Prop} {w w':World} {a:Option Addr} {n c k:Nat} {vs:List Value} (h:FlatS C w a n c k vs) (hs:Stay C C' w w'):FlatS C' w' a n c k vs:=by
  obtain ⟨h1,h2,h3,h4,h6,h5⟩:=h
  refine ⟨h1,h2,h3,h4,h6,fun hn=>?_⟩
  obtain ⟨b,off,ha,hc⟩:=h5 hn
  exact ⟨b,off,ha,fun i u hu=>⟨(hs _ _ (hc i u hu).1).1,(hs _ _ (hc i u hu).1).2.trans (hc i u hu).2⟩⟩
mutual
theorem CX.stay {C C':Nat→Nat→Prop} {w w':World} (hs:Stay C C' w w'):∀ (x:DV) (us:List Value),CX C w x us→CX C' w' x us
  | .int x,us,h=>h
  | .byte x,us,h=>h
  | .bool b,us,h=>h
  | .str s,us,h=>h
  | .agg m,us,h=>CXs.stay hs m us h
  | .sl k l,us,h=>by
    obtain ⟨a,n,c,vs,h1,h2,h3,h4⟩:=h
    exact ⟨a,n,c,vs,h1,h2,CXk.stay hs k l vs h3,h4.stay hs⟩
  | .wh k l,us,h=>by
    obtain ⟨a,n,c,vs,h1,h2,h3,h4,h5⟩:=h
    refine ⟨a,n,c,vs,h1,h2,CXk.stay hs k l vs h3,h4.stay hs,fun hn=>?_⟩
    obtain ⟨b,e,N,ht⟩:=h5 hn
    exact ⟨b,e,N,fun i hi=>(hs _ _ (ht i hi)).1⟩
  | .nl,us,h=>h
  | .hv v,us,h=>h
theorem CXs.stay {C C':Nat→Nat→Prop} {w w':World} (hs:Stay C C' w w'):∀ (m:List DV) (us:List Value),CXs C w m us→CXs C' w' m us
  | [],us,h=>h
  | x :: m,us,h=>by
    obtain ⟨u,v,h1,h2,h3⟩:=h
    exact ⟨u,v,h1,CX.stay hs x u h2,CXs.stay hs m v h3⟩
theorem CXk.stay {C C':Nat→Nat→Prop} {w w':World} (hs:Stay C C' w w') (k:Nat):∀ (m:List DV) (us:List Value),CXk C w k m us→CXk C' w' k m us
  | [],us,h=>h
  | x :: m,us,h=>by
    obtain ⟨u,v,h1,h2,h4,h3⟩:=h
    exact ⟨u,v,h1,CX.stay hs x u h2,h4,CXk.stay hs k m v h3⟩
end
section
variable {C:Nat→Nat→Prop} {w:World}
mutual
theorem CX.one:∀ (x:DV) (us:List Value),CX C w x us→∀ u∈us,u.oneCell'=true
  | .int x,us,h=>by obtain ⟨rfl,_⟩:=h;intro u hu;simp at hu;subst hu;rfl
  | .byte x,us,h=>by obtain ⟨rfl,_⟩:=h;intro u hu;simp at hu;subst hu;rfl
  | .bool b,us,h=>by obtain rfl:=h;intro u hu;simp at hu;subst hu;rfl
  | .str s,us,h=>by obtain rfl:=h;intro u hu;simp at hu;subst hu;rfl
  | .agg m,us,h=>CXs.one m us h
  | .sl k l,us,h=>by obtain ⟨a,n,c,vs,rfl,_⟩:=h;intro u hu;simp at hu;subst hu;rfl
  | .wh k l,us,h=>by obtain ⟨a,n,c,vs,rfl,_⟩:=h;intro u hu;simp at hu;subst hu;rfl
  | .nl,us,h=>by obtain rfl:=h;intro u hu;simp at hu;subst hu;rfl
  | .hv v,us,h=>by obtain ⟨rfl,hv⟩:=h;intro u hu;simp at hu;subst hu;exact hv
theorem CXs.one:∀ (m:List DV) (us:List Value),CXs C w m us→∀ u∈us,u.oneCell'=true
  | [],us,h=>by obtain rfl:=h;intro u hu;cases hu
  | x :: m,us,h=>by
    obtain ⟨u,v,rfl,h2,h3⟩:=h
    intro y hy
    rcases List.mem_append.1 hy with hy | hy
    · exact CX.one x u h2 y hy
    · exact CXs.one m v h3 y hy
end
theorem CXk.one {k:Nat}:∀ (m:List DV) (us:List Value),CXk C w k m us→∀ u∈us,u.oneCell'=true
  | [],us,h=>by obtain rfl:=h;intro u hu;cases hu
  | x :: m,us,h=>by
    obtain ⟨u,v,rfl,h2,_,h3⟩:=h
    intro y hy
    rcases List.mem_append.1 hy with hy | hy
    · exact CX.one x u h2 y hy
    · exact CXk.one m v h3 y hy
theorem wh_sl {k:Nat} {l:List DV} {us:List Value} (h:CX C w (.wh k l) us):CX C w (.sl k l) us:=by
  obtain ⟨a,n,c,vs,h1,h2,h3,h4,_⟩:=h
  exact ⟨a,n,c,vs,h1,h2,h3,h4⟩
theorem CXk.len {k:Nat}:∀ {m:List DV} {us:List Value},CXk C w k m us→us.length=m.length*k
  | [],us,h=>by obtain rfl:=h;simp
  | x :: m,us,h=>by
    obtain ⟨u,v,rfl,_,h4,h3⟩:=h
    have:=CXk.len h3
    simp only [List.length_append,List.length_cons,this,h4,Nat.add_mul,Nat.one_mul];omega
theorem CXk.app {k:Nat} {n:List DV} {vs:List Value} (h':CXk C w k n vs):∀ {m:List DV} {us:List Value},CXk C w k m us→CXk C w k (m ++ n) (us ++ vs)
  | [],us,h=>by obtain rfl:=h;simpa using h'
  | x :: m,us,h=>by
    obtain ⟨u,v,rfl,h2,h4,h3⟩:=h
    exact ⟨u,v ++ vs,by simp,h2,h4,CXk.app h' h3⟩
theorem CXk.at {k:Nat}:∀ {m:List DV} {us:List Value},CXk C w k m us→∀ i x,m[i]? = some x→CX C w x ((us.drop (i*k)).take k)
  | [],us,h=>by intro i x hx;simp at hx
  | y :: m,us,h=>by
    obtain ⟨u,v,rfl,h2,h4,h3⟩:=h
    intro i x hx
    cases i with
    | zero =>
      simp only [List.getElem?_cons_zero,Option.some.injEq] at hx
      subst hx
      simp only [Nat.zero_mul,List.drop_zero]
      rw [List.take_append_of_le_length (by omega),List.take_of_length_le (by omega)]
      exact h2
    | succ i =>
      have:=CXk.at h3 i x (by simpa using hx)
      have e:(u ++ v).drop ((i+1)*k)=v.drop (i*k):=by
        rw [List.drop_append,List.drop_eq_nil_of_le (by rw [h4,Nat.add_mul];omega),List.nil_append,h4]
        congr 1
        rw [Nat.add_mul];omega
      rw [e];exact this
theorem CXk.size {k:Nat}:∀ {m:List DV} {us:List Value},CXk C w k m us→∀ i x,m[i]? = some x→((us.drop (i*k)).take k).length=k:=by
  intro m us h i x hx
  have h1:=h.len
  have h2:i<m.length:=(List.getElem?_eq_some_iff.1 hx).1
  have h3:(i+1)*k≤m.length*k:=Nat.mul_le_mul_right k h2
  rw [Nat.add_mul] at h3
  simp only [List.length_take,List.length_drop]
  omega
theorem CXk.singles {f:List DV} {us:List Value}:CXk C w 1 f us↔us.length=f.length∧∀ (i:Nat) (x:DV),f[i]? = some x→∃ u:Value,us[i]? = some u∧CX C w x [u]:=by
  induction f generalizing us with
  | nil =>
    constructor
    · rintro rfl;exact ⟨rfl,fun i x hx=>by simp at hx⟩
    · rintro ⟨h,_⟩;exact List.eq_nil_of_length_eq_zero (by simpa using h)
  | cons y f ih =>
    constructor
    · rintro ⟨u,v,rfl,h2,h4,h3⟩
      obtain ⟨h5,h6⟩:=ih.1 h3
      obtain ⟨u0,rfl⟩:=List.length_eq_one_iff.1 h4
      refine ⟨by simp [h5],fun i x hx=>?_⟩
      cases i with
      | zero=>simp at hx;subst hx;exact ⟨u0,by simp,h2⟩
      | succ i=>simpa using h6 i x (by simpa using hx)
    · rintro ⟨h5,h6⟩
      cases us with
      | nil=>simp at h5
      | cons u us =>
        obtain ⟨u',hu',hx⟩:=h6 0 y (by simp)
        simp at hu';subst hu'
        refine ⟨[u],us,by simp,hx,rfl,ih.2 ⟨by simpa using h5,fun i x hx=>by simpa using h6 (i+1) x (by simpa using hx)⟩⟩
theorem CX.agg_of {m:List DV} {us:List Value} (h:CXk C w 1 m us):CXs C w m us:=by
  induction m generalizing us with
  | nil=>exact h
  | cons x m ih =>
    obtain ⟨u,v,h1,h2,_,h3⟩:=h
    exact ⟨u,v,h1,h2,ih h3⟩
end
inductive AV where
  | junk
  | d (x:DV)
  | nil
  | buf (g:Nat) (T:TypeId) (k:Nat) (l:List DV)
  | loc (l:List DV)
  | ptr (o i:Nat)
  | arr (o k n:Nat)
  | tup (l:List AV)
  | st (l:List AV)
  | fn (f:FuncId) (l:List AV)
  | any (P:DV→Prop)
  | cst (v:Value)
structure Gh where
  C:Nat→Nat→Prop
  hd:Nat→Value
  hT:Nat→TypeId
  hk:Nat→Nat
  ad:Nat→Nat
mutual
def CV (G:Gh) (w:World):AV→Value→Prop
  | .junk,_=>True
  | .d x,v=>∃ us,CX G.C w x us∧((∃ m,x=.agg m)∧v=.agg us.toArray∨(∀ m,x ≠ .agg m)∧us=[v])
  | .nil,v=>v=.slice none 0 0
  | .buf g T k l,v=>v=G.hd g∧G.hT g=T∧G.hk g=k∧CX G.C w (.wh k l) [v]
  | .loc m,v=>∃ b o us,v=.pointer (some ⟨b,o,none⟩)∧CXk G.C w 1 m us∧∀ i u,us[i]? = some u→G.C b (o+i)∧w.cell? ⟨b,o+i,none⟩=some u
  | .ptr o i,v=>v=.pointer (some ⟨G.ad o,i,none⟩)
  | .arr o _ n,v=>∃ c,v=.slice (some ⟨G.ad o,0,none⟩) n c∧n≤c∧c≤maxLen
  | .tup l,v=>∃ vs:List Value,v=.tuple vs.toArray∧CVs G w l vs
  | .st l,v=>∃ vs:List Value,v=.agg vs.toArray∧(∀ u∈vs,u.oneCell'=true)∧CVs G w l vs
  | .fn f l,v=>∃ vs:List Value,v=.func (.func f) #[] vs.toArray∧CVs G w l vs
  | .any P,v=>∃ x,P x∧(∀ m,x ≠ .agg m)∧CX G.C w x [v]
  | .cst c,v=>v=c
def CVs (G:Gh) (w:World):List AV→List Value→Prop
  | [],vs=>vs=[]
  | x :: l,vs=>∃ v us,vs=v :: us∧CV G w x v∧CVs G w l us
end
mutual
def scrub (fb fo:Nat→Bool):AV→AV
  | .junk=>.junk
  | .d x=>.d x
  | .nil=>.nil
  | .buf g T k l=>if fb g=true then .buf g T k l else .d (.sl k l)
  | .loc m=>.loc m
  | .ptr o i=>if fo o=true then .ptr o i else .junk
  | .arr o k n=>if fo o=true then .arr o k n else .junk
  | .tup l=>.tup (scrubs fb fo l)
  | .st l=>.st (scrubs fb fo l)
  | .fn f l=>.fn f (scrubs fb fo l)
  | .any P=>.any P
  | .cst c=>.cst c
def scrubs (fb fo:Nat→Bool):List AV→List AV
  | []=>[]
  | x :: l=>scrub fb fo x :: scrubs fb fo l
end
structure GLe (fb fo:Nat→Bool) (G G':Gh) (w w':World):Prop where
  st:Stay G.C G'.C w w'
  hd:∀ g,fb g=true→G'.hd g=G.hd g∧G'.hT g=G.hT g∧G'.hk g=G.hk g
  ad:∀ o,fo o=true→G'.ad o=G.ad o
mutual
theorem CV.scrub {fb fo:Nat→Bool} {G G':Gh} {w w':World} (h:GLe fb fo G G' w w'):∀ (x:AV) (v:Value),CV G w x v→CV G' w' (scrub fb fo x) v
  | .junk,v,_=>trivial
  | .d x,v,hv=>by
    obtain ⟨us,h1,h2⟩:=hv
    exact ⟨us,CX.stay h.st x us h1,h2⟩
  | .nil,v,hv=>hv
  | .buf g T k l,v,hv=>by
    obtain ⟨h1,h2,h3,h4⟩:=hv
    simp only [Go.Proofs.Ytpbclpopoodklaa.scrub]
    split
    · rename_i hg
      obtain ⟨e1,e2,e3⟩:=h.hd g hg
      exact ⟨by rw [e1];exact h1,by rw [e2];exact h2,by rw [e3];exact h3,CX.stay h.st _ _ h4⟩
    · exact ⟨[v],wh_sl (CX.stay h.st _ _ h4),.inr ⟨fun m e=>(by cases e),rfl⟩⟩
  | .loc m,v,hv=>by
    obtain ⟨b,o,us,h1,h2,h3⟩:=hv
    exact ⟨b,o,us,h1,CXk.stay h.st 1 m us h2,fun i u hu=>⟨(h.st _ _ (h3 i u hu).1).1,(h.st _ _ (h3 i u hu).1).2.trans (h3 i u hu).2⟩⟩
  | .ptr o i,v,hv=>by
    simp only [Go.Proofs.Ytpbclpopoodklaa.scrub]
    split
    · rename_i ho
      simp only [CV] at hv ⊢
      rw [h.ad o ho];exact hv
    · trivial
  | .arr o k n,v,hv=>by
    simp only [Go.Proofs.Ytpbclpopoodklaa.scrub]
    split
    · rename_i ho
      simp only [CV] at hv ⊢
      rw [h.ad o ho];exact hv
    · trivial
  | .tup l,v,hv=>by
    obtain ⟨vs,h1,h2⟩:=hv
    exact ⟨vs,h1,CVs.scrub h l vs h2⟩
  | .st l,v,hv=>by
    obtain ⟨vs,h1,h0,h2⟩:=hv
    exact ⟨vs,h1,h0,CVs.scrub h l vs h2⟩
  | .fn f l,v,hv=>by
    obtain ⟨vs,h1,h2⟩:=hv
    exact ⟨vs,h1,CVs.scrub h l vs h2⟩
  | .any P,v,hv=>by
    obtain ⟨x,h1,h2,h3⟩:=hv
    exact ⟨x,h1,h2,CX.stay h.st x _ h3⟩
  | .cst c,v,hv=>hv
theorem CVs.scrub {fb fo:Nat→Bool} {G G':Gh} {w w':World} (h:GLe fb fo G G' w w'):∀ (l:List AV) (vs:List Value),CVs G w l vs→CVs G' w' (scrubs fb fo l) vs
  | [],vs,hv=>hv
  | x :: l,vs,hv=>by
    obtain ⟨v,us,h1,h2,h3⟩:=hv
    exact ⟨v,us,h1,CV.scrub h x v h2,CVs.scrub h l us h3⟩
end
mutual
theorem scrub_all {fb fo:Nat→Bool} (hb:∀ g,fb g=true) (ho:∀ o,fo o=true):∀ x:AV,scrub fb fo x=x
  | .junk=>rfl
  | .d _=>rfl
  | .nil=>rfl
  | .buf g T k l=>by simp [scrub,hb]
  | .loc _=>rfl
  | .ptr o i=>by simp [scrub,ho]
  | .arr o k n=>by simp [scrub,ho]
  | .tup l=>by simp [scrub,scrubs_all hb ho l]
  | .st l=>by simp [scrub,scrubs_all hb ho l]
  | .fn f l=>by simp [scrub,scrubs_all hb ho l]
  | .any _=>rfl
  | .cst _=>rfl
theorem scrubs_all {fb fo:Nat→Bool} (hb:∀ g,fb g=true) (ho:∀ o,fo o=true):∀ l:List AV,scrubs fb fo l=l
  | []=>rfl
  | x :: l=>by simp [scrubs,scrub_all hb ho x,scrubs_all hb ho l]
end
theorem scrubs_map (fb fo:Nat→Bool) (l:List AV):scrubs fb fo l=l.map (scrub fb fo):=by
  induction l with
  | nil=>rfl
  | cons x l ih=>simp [scrubs,ih]
theorem CV.keep {G G':Gh} {w w':World} (h:GLe (fun _=>true) (fun _=>true) G G' w w') {x:AV} {v:Value} (hv:CV G w x v):CV G' w' x v:=by
  have:=CV.scrub h x v hv
  rwa [scrub_all (fun _=>rfl) (fun _=>rfl)] at this
theorem CVs.keep {G G':Gh} {w w':World} (h:GLe (fun _=>true) (fun _=>true) G G' w w') {x:List AV} {v:List Value} (hv:CVs G w x v):CVs G' w' x v:=by
  have:=CVs.scrub h x v hv
  rwa [scrubs_all (fun _=>rfl) (fun _=>rfl)] at this
theorem CVs.len {G:Gh} {w:World}:∀ {l:List AV} {vs:List Value},CVs G w l vs→vs.length=l.length
  | [],_,h=>by obtain rfl:=h;rfl
  | x :: l,_,h=>by obtain ⟨v,us,rfl,_,h3⟩:=h;simp [CVs.len h3]
theorem CVs.at {G:Gh} {w:World}:∀ {l:List AV} {vs:List Value},CVs G w l vs→∀ (i:Nat) (x:AV),l[i]? = some x→∃ v:Value,vs[i]? = some v∧CV G w x v
  | [],_,h,i,x,hx=>by simp at hx
  | y :: l,_,h,i,x,hx=>by
    obtain ⟨v,us,rfl,h2,h3⟩:=h
    cases i with
    | zero=>simp at hx;subst hx;exact ⟨v,by simp,h2⟩
    | succ i=>simpa using CVs.at h3 i x (by simpa using hx)
theorem CVs.mk {G:Gh} {w:World}:∀ {l:List AV} {vs:List Value},vs.length=l.length→(∀ (i:Nat) (x:AV) (v:Value),l[i]? = some x→vs[i]? = some v→CV G w x v)→CVs G w l vs
  | [],vs,h,_=>List.eq_nil_of_length_eq_zero (by simpa using h)
  | x :: l,[],h,_=>by simp at h
  | x :: l,v :: vs,h,hh=>⟨v,vs,rfl,hh 0 x v (by simp) (by simp),CVs.mk (by simpa using h) fun i x v hx hv=>hh (i+1) x v (by simpa using hx) (by simpa using hv)⟩
structure AS where
  tm:Nat→AV
  ob:Nat→Option (List AV)
def AS.put (s:AS) (d:Nat) (v:AV):AS:=⟨fun t=>if t=d then v else s.tm t,s.ob⟩
def AS.scr (fb fo:Nat→Bool) (s:AS):AS:=⟨fun t=>scrub fb fo (s.tm t),fun o=>(s.ob o).map (List.map (scrub fb fo))⟩
def AS.setOb (s:AS) (o:Nat) (l:Option (List AV)):AS:=⟨s.tm,fun o'=>if o'=o then l else s.ob o'⟩
structure Fr (L:Nat→Prop) (w0 w:World):Prop where
  os:w.os=w0.os
  tape:w.tape=w0.tape
  output:w.output=w0.output
  size:w0.heap.size≤w.heap.size
  block:∀ k,k<w0.heap.size→¬ L k→w.heap[k]? = w0.heap[k]?
structure Cx where
  w0:World
  L:Nat→Prop
  C0:Nat→Nat→Prop
  N:Nat
  A:Nat→Nat
  hL:∀ b,L b→b<w0.heap.size
  hC:∀ b i,C0 b i→b<w0.heap.size
def BufOK (G:Gh) (base:Nat) (w:World) (g:Nat):Prop :=
  ∃ a n c vs,G.hd g=.slice a n c∧OwnF (G.hT g) (G.hk g) base w a n c vs∧∀ b,a=some ⟨b,0,none⟩→∀ o,(G.C b o→o<n*G.hk g∨c*G.hk g≤o)∧(c*G.hk g≤o→G.C b o)
def ObOK (G:Gh) (w:World) (o:Nat) (l:List AV):Prop :=
  G.ad o<w.heap.size∧(∀ i,¬ G.C (G.ad o) i)∧∃ us,CVs G w l us∧(∀ u∈us,u.oneCell'=true)∧∀ (i:Nat) (u:Value),us[i]? = some u→w.cell? ⟨G.ad o,i,none⟩=some u∧w.frozen? ⟨G.ad o,i,none⟩=false
structure RelG (X:Cx) (G:Gh) (s:AS) (a:Act) (w:World):Prop where
  fr:Fr X.L X.w0 w
  df:a.defers=[]
  n:a.tmps.size=X.N
  tm:∀ t,t<X.N→CV G w (s.tm t) (a.tmps.getD t undef)
  bf:∀ g,BufOK G X.w0.heap.size w g
  ob:∀ o l,s.ob o=some l→ObOK G w o l
  cs:∀ b o,G.C b o→b<w.heap.size
  d1:∀ g h,g ≠ h→(G.hd g).ownBlock=(G.hd h).ownBlock→(G.hd g).ownBlock=none
  d2:∀ o o',s.ob o ≠ none→s.ob o' ≠ none→G.ad o=G.ad o'→o=o'
  d3:∀ o g,s.ob o ≠ none→(G.hd g).ownBlock ≠ some (G.ad o)
  ow:∀ o,s.ob o ≠ none→(o<1000000→X.w0.heap.size≤G.ad o)∧(X.w0.heap.size≤G.ad o∨X.L (G.ad o))
  lc:∀ b o,G.C b o→b<X.w0.heap.size→X.C0 b o
  nl:∀ b o,G.C b o→¬ X.L b
  ln:∀ i,s.ob (1000000+i) ≠ none→G.ad (1000000+i)=X.A i
  c0:∀ b i,X.C0 b i→G.C b i
  uf:∀ b i,G.C b i→X.w0.heap.size≤b→w.frozen? ⟨b,i,none⟩=false
def Rel (X:Cx) (s:AS) (a:Act) (w:World):Prop:=∃ G,RelG X G s a w
theorem RelG.put {X:Cx} {G:Gh} {s:AS} {a:Act} {w:World} (h:RelG X G s a w) (d:Nat) {x:AV} {v:Value} (hv:CV G w x v):RelG X G (s.put d x) (a.put (some d) v) w:=by
  obtain ⟨h1,h2,h3,h4,h5,h6,h7,h8,h9,h10,h11,h12,h13,h14,h15,h16⟩:=h
  refine ⟨h1,h2,by simp [Act.put,h3],fun t ht=>?_,h5,h6,h7,h8,h9,h10,h11,h12,h13,h14,h15,h16⟩
  by_cases e:t=d
  · subst e
    have:(a.put (some t) v).tmps.getD t undef=v:=by simp [Act.put,Array.getD_eq_getD_getElem?,show t<a.tmps.size by omega]
    rw [this];simpa [AS.put] using hv
  · have:(a.put (some d) v).tmps.getD t undef=a.tmps.getD t undef:=by simp [Act.put,Array.getD_eq_getD_getElem?,Array.getElem?_setIfInBounds_ne (Ne.symm e)]
    rw [this];simpa [AS.put,e] using h4 t ht
theorem RelG.drew {X:Cx} {G:Gh} {s:AS} {a:Act} {w:World} (h:RelG X G s a w):RelG X G s a w.drew:=by
  obtain ⟨h1,h2,h3,h4,h5,h6,h7,h8,h9,h10,h11,h12,h13,h14,h15,h16⟩:=h
  have hk:GLe (fun _=>true) (fun _=>true) G G w w.drew:=⟨fun b o hc=>⟨hc,rfl⟩,fun _ _=>⟨rfl,rfl,rfl⟩,fun _ _=>rfl⟩
  refine ⟨⟨h1.os,h1.tape,h1.output,h1.size,h1.block⟩,h2,h3,fun t ht=>(h4 t ht).keep hk,fun g=>?_,fun o l ho=>?_,h7,h8,h9,h10,h11,h12,h13,h14,h15,h16⟩
  · exact h5 g
  · obtain ⟨g1,g2,us,g3,g4,g5⟩:=h6 o l ho
    exact ⟨g1,g2,us,g3.keep hk,g4,g5⟩
structure TyI where
  size:Nat
  agg:Bool
  zero:List AV
  flds:List (Nat×TypeId)
  kd:Option TypeDesc
  pl:List (Nat×Nat)
  wh:Bool
  st:Bool
def ZeroOK:List AV→List Value→Prop
  | [],us=>us=[]
  | x :: l,us=>∃ u v,us=u :: v∧((∀ G w,CV G w x u)∧∀ fb fo,scrub fb fo x=x)∧u.oneCell'=true∧ZeroOK l v
structure TyOK (T:TypeId) (i:TyI):Prop where
  info:∃ f z,Try.prog.info? T=some f∧f.size=i.size∧f.zero=some z∧f.bytes≤4096∧ZeroOK i.zero z.cells.toList∧z.cells.size=i.size
  agg:i.agg=true→∃ fs,Try.prog.underlying T=some (.struct fs)∧∀ (f off:Nat) (T':TypeId),i.flds[f]? = some (off,T')→∃ d:Field,fs[f]? = some d∧d.offset=off∧d.type=T'
  flat:i.agg=false→i.size=1∧∃ d,Try.prog.underlying T=some d∧(∀ fs,d ≠ .struct fs)∧∀ n e,d ≠ .array n e
  kd:∀ d,i.kd=some d→Try.prog.underlying T=some d
  pl:i.agg=true→∃ fs,Try.prog.underlying T=some (.struct fs)∧fs.toList.mapM (fun f=>(Try.prog.info? f.type).map fun i=>(f.offset,i.size))=some i.pl
def TabOK (ty:TypeId→Option TyI):Prop:=∀ T i,ty T=some i→TyOK T i
def i64B (x:Int):Bool:=decide (-9223372036854775808≤x∧x≤9223372036854775807)
def dvOf:Value→Option DV
  | .int .i64 x=>if i64B x=true then some (.int x) else none
  | .int .u8 x=>if 0≤x∧x≤255 then some (.byte x) else none
  | .bool b=>some (.bool b)
  | .string s=>some (.str s)
  | .slice none 0 0=>some (.sl 1 [])
  | _=>none
def dvsOf:List Value→Option (List DV)
  | []=>some []
  | v :: l=>match dvOf v,dvsOf l with
    | some x,some m=>some (x :: m)
    | _,_=>none
def ofConst:Value→AV
  | .slice none 0 0=>.nil
  | .int .u64 n=>.cst (.int .u64 n)
  | .agg cs=>match dvsOf cs.toList with
    | some m=>.d (.agg m)
    | none=>.junk
  | v=>match dvOf v with
    | some x=>.d x
    | none=>.junk
def ev (N:Nat) (s:AS):Operand→AV
  | .tmp t=>if t<N then s.tm t else .junk
  | .const v=>ofConst v
  | .func f=>.fn f []
  | .global _=>.junk
def evs (N:Nat) (s:AS):List Operand→List AV
  | []=>[]
  | x :: l=>ev N s x :: evs N s l
section
variable {X:Cx} {G:Gh} {s:AS} {a:Act} {w:World}
theorem CV.dd {x:DV} {us:List Value} {v:Value} (h:CX G.C w x us) (h2:(∃ m,x=.agg m)∧v=.agg us.toArray∨(∀ m,x ≠ .agg m)∧us=[v]):CV G w (.d x) v:=⟨us,h,h2⟩
theorem cvInt {x:Int} {v:Value}:CV G w (.d (.int x)) v↔v=.int .i64 x∧I64 x:=by
  constructor
  · rintro ⟨us,⟨h1,h3⟩,h2⟩
    rcases h2 with ⟨⟨m,e⟩,_⟩ | ⟨_,h2⟩
    · cases e
    · rw [h1] at h2;cases h2;exact ⟨rfl,h3⟩
  · rintro ⟨rfl,h⟩;exact ⟨_,⟨rfl,h⟩,.inr ⟨fun m e=>(by cases e),rfl⟩⟩
theorem cvByte {x:Int} {v:Value}:CV G w (.d (.byte x)) v↔v=.int .u8 x∧0≤x∧x≤255:=by
  constructor
  · rintro ⟨us,⟨h1,h3⟩,h2⟩
    rcases h2 with ⟨⟨m,e⟩,_⟩ | ⟨_,h2⟩
    · cases e
    · rw [h1] at h2;cases h2;exact ⟨rfl,h3⟩
  · rintro ⟨rfl,h⟩;exact ⟨_,⟨rfl,h⟩,.inr ⟨fun m e=>(by cases e),rfl⟩⟩
theorem cvBool {x:Bool} {v:Value}:CV G w (.d (.bool x)) v↔v=.bool x:=by
  constructor
  · rintro ⟨us,h1,h2⟩
    rcases h2 with ⟨⟨m,e⟩,_⟩ | ⟨_,h2⟩
    · cases e
    · simp only [CX] at h1;rw [h1] at h2;cases h2;rfl
  · rintro rfl;exact ⟨_,rfl,.inr ⟨fun m e=>(by cases e),rfl⟩⟩
theorem cvStr {x:ByteArray} {v:Value}:CV G w (.d (.str x)) v↔v=.string x:=by
  constructor
  · rintro ⟨us,h1,h2⟩
    rcases h2 with ⟨⟨m,e⟩,_⟩ | ⟨_,h2⟩
    · cases e
    · simp only [CX] at h1;rw [h1] at h2;cases h2;rfl
  · rintro rfl;exact ⟨_,rfl,.inr ⟨fun m e=>(by cases e),rfl⟩⟩
theorem cvSl {k:Nat} {l:List DV} {v:Value}:CV G w (.d (.sl k l)) v↔CX G.C w (.sl k l) [v]:=by
  constructor
  · rintro ⟨us,h1,h2⟩
    rcases h2 with ⟨⟨m,e⟩,_⟩ | ⟨_,h2⟩
    · cases e
    · rw [h2] at h1;exact h1
  · intro h;exact ⟨_,h,.inr ⟨fun m e=>(by cases e),rfl⟩⟩
theorem cvWh {k:Nat} {l:List DV} {v:Value}:CV G w (.d (.wh k l)) v↔CX G.C w (.wh k l) [v]:=by
  constructor
  · rintro ⟨us,h1,h2⟩
    rcases h2 with ⟨⟨m,e⟩,_⟩ | ⟨_,h2⟩
    · cases e
    · rw [h2] at h1;exact h1
  · intro h;exact ⟨_,h,.inr ⟨fun m e=>(by cases e),rfl⟩⟩
theorem cvNl {v:Value}:CV G w (.d .nl) v↔v=.slice none 0 0:=by
  constructor
  · rintro ⟨us,h1,h2⟩
    rcases h2 with ⟨⟨m,e⟩,_⟩ | ⟨_,h2⟩
    · cases e
    · simp only [CX] at h1;rw [h1] at h2;cases h2;rfl
  · rintro rfl;exact ⟨_,rfl,.inr ⟨fun m e=>(by cases e),rfl⟩⟩
theorem cvAgg {m:List DV} {v:Value}:CV G w (.d (.agg m)) v↔∃ us,CXs G.C w m us∧v=.agg us.toArray:=by
  constructor
  · rintro ⟨us,h1,h2⟩
    rcases h2 with ⟨_,h2⟩ | ⟨h,_⟩
    · exact ⟨us,h1,h2⟩
    · exact absurd rfl (h m)
  · rintro ⟨us,h1,h2⟩;exact ⟨us,h1,.inl ⟨⟨m,rfl⟩,h2⟩⟩
theorem cx_nil (C:Nat→Nat→Prop) (w:World) (k:Nat):CX C w (.sl k []) [.slice none 0 0]:=⟨none,0,0,[],rfl,rfl,rfl,by simp,Nat.le_refl _,by simp [maxLen],fun _=>rfl,fun _ h=>(by cases h),fun h=>absurd h (Nat.lt_irrefl 0)⟩
theorem dvOf_ok {v:Value} {x:DV} (h:dvOf v=some x):CX G.C w x [v]∧∀ m,x ≠ .agg m:=by
  unfold dvOf at h
  split at h
  · split at h
    · rename_i hx
      cases h
      exact ⟨⟨rfl,by simpa [i64B,I64] using hx⟩,fun m e=>(by cases e)⟩
    · cases h
  · split at h
    · rename_i hx
      cases h
      exact ⟨⟨rfl,hx⟩,fun m e=>(by cases e)⟩
    · cases h
  · cases h;exact ⟨rfl,fun m e=>(by cases e)⟩
  · cases h;exact ⟨rfl,fun m e=>(by cases e)⟩
  · cases h;exact ⟨cx_nil _ _ _,fun m e=>(by cases e)⟩
  · cases h
theorem dvsOf_ok:∀ {l:List Value} {m:List DV},dvsOf l=some m→CXs G.C w m l
  | [],m,h=>by cases h;rfl
  | v :: l,m,h=>by
    unfold dvsOf at h
    split at h
    · rename_i x m' h1 h2
      cases h
      exact ⟨[v],l,rfl,(dvOf_ok h1).1,dvsOf_ok h2⟩
    · cases h
theorem ofConst_ok (v:Value):CV G w (ofConst v) v:=by
  unfold ofConst
  split
  · rfl
  · rfl
  · split
    · rename_i cs _ m hm
      exact cvAgg.2 ⟨cs.toList,dvsOf_ok hm,by simp⟩
    · trivial
  · split
    · rename_i v' _ _ _ x hx
      have:=dvOf_ok (G:=G) (w:=w) hx
      exact ⟨[v],this.1,.inr ⟨this.2,rfl⟩⟩
    · trivial
theorem RelG.ev (h:RelG X G s a w) (x:Operand):CV G w (ev X.N s x) (a.eval x):=by
  cases x with
  | tmp t =>
    simp only [Go.Proofs.Ytpbclpopoodklaa.ev,Act.eval]
    split
    · exact h.tm t (by assumption)
    · trivial
  | const v=>exact ofConst_ok v
  | func f=>exact ⟨[],rfl,rfl⟩
  | global g=>trivial
theorem RelG.evs (h:RelG X G s a w) (l:List Operand):CVs G w (evs X.N s l) (l.map a.eval):=by
  induction l with
  | nil=>rfl
  | cons x l ih=>exact ⟨_,_,rfl,h.ev x,ih⟩
end
def AS.putD (s:AS) (d:Option Nat) (v:AV):AS:=match d with
  | some d=>s.put d v
  | none=>s
theorem RelG.putD {X:Cx} {G:Gh} {s:AS} {a:Act} {w:World} (h:RelG X G s a w) (d:Option Nat) {x:AV} {v:Value} (hv:CV G w x v):RelG X G (s.putD d x) (a.put d v) w:=by
  cases d with
  | none=>exact h
  | some d=>exact h.put d hv
def Snd (o:Oper) (X:Cx) (a:Act) (w:World) (K:AS→Prop):Prop :=
  ∀ (nx:Act→World→Prop) (Q:Exit→Act→World→Prop),(∀ s' a' w',K s'→Rel X s' a' w'→nx a' w')→o.wp Try.prog a w nx Q
section
variable {X:Cx} {G:Gh} {s:AS} {a:Act} {w:World} {K:AS→Prop} {o:Oper}
theorem snd_val {x:AV} {v:Value} (h:RelG X G s a w) (hr:(execOp a.eval o).run Try.prog w=.ok (.value v) w) (hv:CV G w x v) (hK:K (s.putD o.dst x)):Snd o X a w K:=by
  intro nx Q hn
  unfold Oper.wp
  rw [hr]
  exact hn _ _ _ hK ⟨G,h.putD o.dst hv⟩
def sMove (N:Nat) (s:AS) (dst:Option Nat) (x:Operand) (K:AS→Prop):Prop:=K (s.putD dst (ev N s x))
theorem snd_move {x:Operand} (h:RelG X G s a w) (ho:o.op=.move x∨o.op=.assign x) (hs:sMove X.N s o.dst x K):Snd o X a w K:=by
  refine snd_val h ?_ (h.ev x) hs
  rcases ho with ho | ho <;> simp [execOp,ho]
def pickA (p:Bool):AV→AV→AV
  | .d (.bool a),.d (.bool b)=>.d (.bool (bif p then a else b))
  | x,y=>bif p then x else y
def sPick (N:Nat) (s:AS) (dst:Option Nat) (c x y:Operand) (K:AS→Prop):Prop:=match ev N s c with
  | .d (.bool p)=>K (s.putD dst (pickA p (ev N s x) (ev N s y)))
  | _=>False
theorem pickA_ok {p:Bool} {x y:AV} {v u:Value} (h1:CV G w x v) (h2:CV G w y u):CV G w (pickA p x y) (if p=true then v else u):=by
  unfold pickA
  split
  · obtain rfl:=cvBool.1 h1
    obtain rfl:=cvBool.1 h2
    cases p <;> exact cvBool.2 rfl
  · cases p <;> simpa
theorem snd_pick {c x y:Operand} (h:RelG X G s a w) (ho:o.op=.pick c x y) (hs:sPick X.N s o.dst c x y K):Snd o X a w K:=by
  unfold sPick at hs
  split at hs
  · rename_i p hp
    have hc:=h.ev c
    rw [hp] at hc
    have hc':=cvBool.1 hc
    refine snd_val h ?_ (pickA_ok (p:=p) (h.ev x) (h.ev y)) hs
    simp [execOp,ho,hc',asBool]
    first | done | (cases p <;> rfl)
  · exact hs.elim
def andI (x y:Int):Int:=IntKind.i64.wrap (BitVec.ofInt 64 x &&& BitVec.ofInt 64 y).toNat
def xorI (x y:Int):Int:=IntKind.i64.wrap (BitVec.ofInt 64 x ^^^ BitVec.ofInt 64 y).toNat
def shrI (x n:Int):Int:=x.fdiv (2 ^ (min n.toNat 64))
def sBinI (op:BinOp) (x y:Int) (s:AS) (dst:Option Nat) (K:AS→Prop):Prop:=match op with
  | .add=>K (s.putD dst (.d (.int (IntKind.i64.wrap (x+y)))))
  | .sub=>K (s.putD dst (.d (.int (IntKind.i64.wrap (x - y)))))
  | .mul=>K (s.putD dst (.d (.int (IntKind.i64.wrap (x*y)))))
  | .quo=>y ≠ 0∧K (s.putD dst (.d (.int (IntKind.i64.wrap (x.tdiv y)))))
  | .rem=>y ≠ 0∧K (s.putD dst (.d (.int (x.tmod y))))
  | .eql=>K (s.putD dst (.d (.bool (decide (x=y)))))
  | .neq=>K (s.putD dst (.d (.bool (!decide (x=y)))))
  | .lss=>K (s.putD dst (.d (.bool (decide (x<y)))))
  | .leq=>K (s.putD dst (.d (.bool (decide (x≤y)))))
  | .gtr=>K (s.putD dst (.d (.bool (decide (y<x)))))
  | .geq=>K (s.putD dst (.d (.bool (decide (y≤x)))))
  | .and=>K (s.putD dst (.d (.int (andI x y))))
  | .xor=>K (s.putD dst (.d (.int (xorI x y))))
  | _=>False
def sBinB (op:BinOp) (x y:Int) (s:AS) (dst:Option Nat) (K:AS→Prop):Prop:=match op with
  | .eql=>K (s.putD dst (.d (.bool (decide (x=y)))))
  | .neq=>K (s.putD dst (.d (.bool (!decide (x=y)))))
  | .lss=>K (s.putD dst (.d (.bool (decide (x<y)))))
  | .leq=>K (s.putD dst (.d (.bool (decide (x≤y)))))
  | .gtr=>K (s.putD dst (.d (.bool (decide (y<x)))))
  | .geq=>K (s.putD dst (.d (.bool (decide (y≤x)))))
  | _=>False
def strEq (x y:ByteArray):Bool:=x.toList == y.toList
def strLt (x y:ByteArray):Bool:=Op.bytesLess x.toList y.toList
def sBinS (op:BinOp) (x y:ByteArray) (s:AS) (dst:Option Nat) (K:AS→Prop):Prop:=match op with
  | .add=>((x.size+y.size:Nat):Int)≤9223372036854775807∧K (s.putD dst (.d (.str (x ++ y))))
  | .eql=>K (s.putD dst (.d (.bool (strEq x y))))
  | .neq=>K (s.putD dst (.d (.bool (!strEq x y))))
  | .lss=>K (s.putD dst (.d (.bool (strLt x y))))
  | .leq=>K (s.putD dst (.d (.bool (strLt x y || strEq x y))))
  | .gtr=>K (s.putD dst (.d (.bool (!(strLt x y || strEq x y)))))
  | .geq=>K (s.putD dst (.d (.bool (!strLt x y))))
  | _=>False
noncomputable def boolT (T:TypeId):Bool:=match Try.prog.underlying T with
  | some .bool=>true
  | _=>false
def sBinL (op:BinOp) (T:TypeId) (x y:Bool) (s:AS) (dst:Option Nat) (K:AS→Prop):Prop:=match op with
  | .eql=>boolT T=true∧K (s.putD dst (.d (.bool (x == y))))
  | .neq=>boolT T=true∧K (s.putD dst (.d (.bool (!(x == y)))))
  | _=>False
def eqD:DV→DV→Bool
  | .int a,.int b=>decide (a=b)
  | .byte a,.byte b=>decide (a=b)
  | .bool a,.bool b=>a == b
  | .str a,.str b=>strEq a b
  | _,_=>false
def eqDs:List DV→List DV→Bool
  | [],[]=>true
  | x :: l,y :: m=>eqD x y && eqDs l m
  | _,_=>false
noncomputable def okT:Option TypeDesc→DV→Bool
  | some (.int .i64),.int _=>true
  | some (.int .u8),.byte _=>true
  | some .bool,.bool _=>true
  | some .string,.str _=>true
  | _,_=>false
noncomputable def eqF:List Field→Nat→List DV→Bool
  | [],_,l=>l.isEmpty
  | f :: fs,i,l=>(f.name != "_") && (f.offset == i) && okT (Try.prog.underlying f.type) (l.getD 0 (.agg [])) && eqF fs (i+1) (l.drop 1)
noncomputable def eqTOK (T:TypeId) (l:List DV):Bool:=!Try.prog.stoodInHeld T && !Try.prog.eqGuardType Try.prog.depth T && match Try.prog.underlying T with
  | some (.struct fs)=>eqF fs.toList 0 l
  | _=>false
def sBinG (op:BinOp) (T:TypeId) (l m:List DV) (s:AS) (dst:Option Nat) (K:AS→Prop):Prop:=match op with
  | .eql=>eqTOK T l=true∧eqTOK T m=true∧K (s.putD dst (.d (.bool (eqDs l m))))
  | .neq=>eqTOK T l=true∧eqTOK T m=true∧K (s.putD dst (.d (.bool (!eqDs l m))))
  | _=>False
theorem bne_dec (x y:Int):(x != y) = !decide (x=y):=by
  by_cases h:x=y <;> simp [h]
theorem beq_dec (x y:Int):(x == y)=decide (x=y):=by
  by_cases h:x=y <;> simp [h]
theorem okT_out {T:TypeId} {x:DV} (h:okT (Try.prog.underlying T) x=true):(∃ n,x=.int n∧Try.prog.underlying T=some (.int .i64))∨(∃ n,x=.byte n∧Try.prog.underlying T=some (.int .u8))∨(∃ b,x=.bool b∧Try.prog.underlying T=some .bool)∨(∃ b,x=.str b∧Try.prog.underlying T=some .string):=by
  generalize Try.prog.underlying T=t at h
  unfold okT at h
  split at h
  · exact .inl ⟨_,rfl,rfl⟩
  · exact .inr (.inl ⟨_,rfl,rfl⟩)
  · exact .inr (.inr (.inl ⟨_,rfl,rfl⟩))
  · exact .inr (.inr (.inr ⟨_,rfl,rfl⟩))
  · cases h
theorem eqD_run {d:Nat} {T:TypeId} {x y:DV} {us vs:List Value} (hx:okT (Try.prog.underlying T) x=true) (hy:okT (Try.prog.underlying T) y=true) (h1:CX G.C w x us) (h2:CX G.C w y vs) :
    ∃ u v,us=[u]∧vs=[v]∧(∀ (xs:List Value) (i:Nat),xs[i]? = some u→(part T xs.toArray i).run Try.prog w=.ok u w)∧(∀ (xs:List Value) (i:Nat),xs[i]? = some v→(part T xs.toArray i).run Try.prog w=.ok v w)∧(Op.equalIn (d+1) T u v).run Try.prog w=.ok (eqD x y) w:=by
  rcases okT_out hx with ⟨n,rfl,e⟩ | ⟨n,rfl,e⟩ | ⟨n,rfl,e⟩ | ⟨n,rfl,e⟩ <;> rcases okT_out hy with ⟨m,rfl,e'⟩ | ⟨m,rfl,e'⟩ | ⟨m,rfl,e'⟩ | ⟨m,rfl,e'⟩ <;> (first | (rw [e] at e';simp at e';done) | skip)
  · obtain ⟨rfl,_⟩:=h1;obtain ⟨rfl,_⟩:=h2
    exact ⟨_,_,rfl,rfl,fun xs i h=>by simp [part,isAgg,run_underlying e,h],fun xs i h=>by simp [part,isAgg,run_underlying e,h],by rw [run_equalIn_int w d T _ _ _ _ e,beq_dec];rfl⟩
  · obtain ⟨rfl,_⟩:=h1;obtain ⟨rfl,_⟩:=h2
    exact ⟨_,_,rfl,rfl,fun xs i h=>by simp [part,isAgg,run_underlying e,h],fun xs i h=>by simp [part,isAgg,run_underlying e,h],by rw [run_equalIn_int w d T _ _ _ _ e,beq_dec];rfl⟩
  · obtain rfl:=h1;obtain rfl:=h2
    exact ⟨_,_,rfl,rfl,fun xs i h=>by simp [part,isAgg,run_underlying e,h],fun xs i h=>by simp [part,isAgg,run_underlying e,h],by rw [run_equalIn_bool w d T _ _ e];rfl⟩
  · obtain rfl:=h1;obtain rfl:=h2
    exact ⟨_,_,rfl,rfl,fun xs i h=>by simp [part,isAgg,run_underlying e,h],fun xs i h=>by simp [part,isAgg,run_underlying e,h],by rw [run_equalIn_string w d T _ _ e];rfl⟩
theorem eqF_run {d:Nat} {xs ys:List Value}:∀ {fs:List Field} {i:Nat} {l m:List DV} {us vs:List Value},eqF fs i l=true→eqF fs i m=true→CXs G.C w l us→CXs G.C w m vs→xs.drop i=us→ys.drop i=vs →
    (Op.eqFields (d+1) xs.toArray ys.toArray fs).run Try.prog w=.ok (eqDs l m) w
  | [],i,l,m,us,vs,h1,h2,_,_,_,_=>by
    simp only [eqF,List.isEmpty_iff] at h1 h2
    subst h1;subst h2
    rfl
  | f :: fs,i,l,m,us,vs,h1,h2,g1,g2,e1,e2=>by
    simp only [eqF,Bool.and_eq_true,bne_iff_ne,beq_iff_eq] at h1 h2
    cases l with
    | nil=>simp [okT] at h1
    | cons x l =>
      cases m with
      | nil=>simp [okT] at h2
      | cons y m =>
        simp only [List.getD_cons_zero,List.drop_succ_cons,List.drop_zero] at h1 h2
        obtain ⟨u,us',rfl,c1,c2⟩:=g1
        obtain ⟨v,vs',rfl,c3,c4⟩:=g2
        obtain ⟨u0,v0,rfl,rfl,p1,p2,p3⟩:=eqD_run (d:=d) h1.1.2 h2.1.2 c1 c3
        have hu:xs[i]? = some u0:=by
          have:(xs.drop i)[0]? = some u0:=by rw [e1];rfl
          simpa using this
        have hv:ys[i]? = some v0:=by
          have:(ys.drop i)[0]? = some v0:=by rw [e2];rfl
          simpa using this
        have hu':xs.drop (i+1)=us':=by rw [← List.drop_drop,e1];rfl
        have hv':ys.drop (i+1)=vs':=by rw [← List.drop_drop,e2];rfl
        have ih:=eqF_run (d:=d) h1.2 h2.2 c2 c4 hu' hv'
        simp only [Op.eqFields,if_pos h1.1.1.1,h1.1.1.2,Sem.run_bind,p1 _ _ hu,p2 _ _ hv,p3,Result.andThen_ok,eqDs]
        cases eqD x y with
        | true=>simpa using ih
        | false=>rfl
def sBin (op:BinOp) (N:Nat) (s:AS) (dst:Option Nat) (T:TypeId) (x y:Operand) (K:AS→Prop):Prop:=match ev N s x,ev N s y with
  | .d (.int a),.d (.int b)=>sBinI op a b s dst K
  | .d (.byte a),.d (.byte b)=>sBinB op a b s dst K
  | .d (.str a),.d (.str b)=>sBinS op a b s dst K
  | .d (.bool a),.d (.bool b)=>sBinL op T a b s dst K
  | .d (.agg a),.d (.agg b)=>sBinG op T a b s dst K
  | .d (.int a),.cst (.int .u64 b)=>op=.shr∧0≤b∧K (s.putD dst (.d (.int (shrI a b))))
  | _,_=>False
theorem wrapI64 (x:Int):I64 (IntKind.i64.wrap x):=by
  rw [IntKind.wrap_i64];unfold I64;omega
theorem tmodI64 {x:Int} (h:I64 x) (y:Int):I64 (x.tmod y):=by
  have h1:(x.tmod y).natAbs=x.natAbs % y.natAbs:=Int.natAbs_tmod ..
  have h2:=Nat.mod_le x.natAbs y.natAbs
  unfold I64 at *
  rcases Int.le_total 0 x with h3 | h3
  · have:=Int.tmod_nonneg y h3
    omega
  · have:x.tmod y≤0:=by
      have:=Int.tmod_nonneg y (show 0≤-x by omega)
      rw [Int.neg_tmod] at this;omega
    omega
theorem shrI64 {x:Int} (h:I64 x) (n:Int):I64 (shrI x n):=by
  unfold shrI
  have h1:(1:Int)≤2 ^ (min n.toNat 64):=by
    have:(0:Int)<2 ^ (min n.toNat 64):=Int.pow_pos (by omega)
    omega
  generalize (2:Int) ^ (min n.toNat 64)=d at h1
  rw [Int.fdiv_eq_ediv_of_nonneg _ (by omega)]
  unfold I64 at *
  have e:=Int.mul_ediv_add_emod x d
  have e2:=Int.emod_nonneg x (show d ≠ 0 by omega)
  have e3:=Int.emod_lt_of_pos x (show 0<d by omega)
  rcases Int.le_total 0 x with h3 | h3
  · have:=Int.ediv_nonneg h3 (show (0:Int)≤d by omega)
    have:=Int.ediv_le_self d h3
    omega
  · have h4:x / d≤0:=by
      have:=Int.ediv_le_ediv (show (0:Int)<d by omega) h3
      simpa using this
    have h5:x≤x / d:=by
      refine Int.le_ediv_of_mul_le (by omega) ?_
      have:=Int.mul_le_mul_of_nonpos_left h3 h1
      omega
    omega
theorem snd_bin {op:BinOp} {T T':TypeId} {x y:Operand} (h:RelG X G s a w) (ho:o.op=.binOp op T x y T') (hs:sBin op X.N s o.dst T x y K):Snd o X a w K:=by
  have hx:=h.ev x
  have hy:=h.ev y
  unfold sBin at hs
  split at hs
  · rename_i p q hp hq
    rw [hp] at hx;rw [hq] at hy
    obtain ⟨ex,ix⟩:=cvInt.1 hx
    obtain ⟨ey,iy⟩:=cvInt.1 hy
    cases op <;> simp only [sBinI] at hs
    case add=>exact snd_val h (by simp [execOp,ho,ex,ey,eqGuard,binOp,Op.intArith]) (cvInt.2 ⟨rfl,wrapI64 _⟩) hs
    case sub=>exact snd_val h (by simp [execOp,ho,ex,ey,eqGuard,binOp,Op.intArith]) (cvInt.2 ⟨rfl,wrapI64 _⟩) hs
    case mul=>exact snd_val h (by simp [execOp,ho,ex,ey,eqGuard,binOp,Op.intArith]) (cvInt.2 ⟨rfl,wrapI64 _⟩) hs
    case quo=>exact snd_val h (by simp [execOp,ho,ex,ey,eqGuard,binOp,Op.intDiv,hs.1]) (cvInt.2 ⟨rfl,wrapI64 _⟩) hs.2
    case rem=>exact snd_val h (by simp [execOp,ho,ex,ey,eqGuard,binOp,Op.intDiv,hs.1]) (cvInt.2 ⟨rfl,tmodI64 ix _⟩) hs.2
    case eql=>exact snd_val h (by simp [execOp,ho,ex,ey,eqGuard,binOp,Op.intCmp,beq_dec] <;> rfl) (cvBool.2 rfl) hs
    case neq=>exact snd_val h (by simp [execOp,ho,ex,ey,eqGuard,binOp,Op.intCmp,bne_dec] <;> rfl) (cvBool.2 rfl) hs
    case lss=>exact snd_val h (by simp [execOp,ho,ex,ey,eqGuard,binOp,Op.intCmp] <;> rfl) (cvBool.2 rfl) hs
    case leq=>exact snd_val h (by simp [execOp,ho,ex,ey,eqGuard,binOp,Op.intCmp] <;> rfl) (cvBool.2 rfl) hs
    case gtr=>exact snd_val h (by simp [execOp,ho,ex,ey,eqGuard,binOp,Op.intCmp] <;> rfl) (cvBool.2 rfl) hs
    case geq=>exact snd_val h (by simp [execOp,ho,ex,ey,eqGuard,binOp,Op.intCmp] <;> rfl) (cvBool.2 rfl) hs
    case and=>exact snd_val h (by simp [execOp,ho,ex,ey,eqGuard,binOp,Op.intBits] <;> rfl) (cvInt.2 ⟨rfl,wrapI64 _⟩) hs
    case xor=>exact snd_val h (by simp [execOp,ho,ex,ey,eqGuard,binOp,Op.intBits] <;> rfl) (cvInt.2 ⟨rfl,wrapI64 _⟩) hs
  · rename_i p q hp hq
    rw [hp] at hx;rw [hq] at hy
    obtain ⟨ex,ix⟩:=cvByte.1 hx
    obtain ⟨ey,iy⟩:=cvByte.1 hy
    cases op <;> simp only [sBinB] at hs
    case eql=>exact snd_val h (by simp [execOp,ho,ex,ey,eqGuard,binOp,Op.intCmp,beq_dec] <;> rfl) (cvBool.2 rfl) hs
    case neq=>exact snd_val h (by simp [execOp,ho,ex,ey,eqGuard,binOp,Op.intCmp,bne_dec] <;> rfl) (cvBool.2 rfl) hs
    case lss=>exact snd_val h (by simp [execOp,ho,ex,ey,eqGuard,binOp,Op.intCmp] <;> rfl) (cvBool.2 rfl) hs
    case leq=>exact snd_val h (by simp [execOp,ho,ex,ey,eqGuard,binOp,Op.intCmp] <;> rfl) (cvBool.2 rfl) hs
    case gtr=>exact snd_val h (by simp [execOp,ho,ex,ey,eqGuard,binOp,Op.intCmp] <;> rfl) (cvBool.2 rfl) hs
    case geq=>exact snd_val h (by simp [execOp,ho,ex,ey,eqGuard,binOp,Op.intCmp] <;> rfl) (cvBool.2 rfl) hs
  · rename_i p q hp hq
    rw [hp] at hx;rw [hq] at hy
    have ex:=cvStr.1 hx
    have ey:=cvStr.1 hy
    cases op <;> simp only [sBinS] at hs
    case add=>exact snd_val h (by
      have h9:¬ (((p.size+q.size:Nat):Int) > IntKind.i64.max):=by have:=hs.1;simp only [IntKind.max,IntKind.bits,IntKind.signed];simp;omega
      simp only [execOp,ho,ex,ey,eqGuard,binOp,Op.stringOp];simp only [h9,if_false];simp) (cvStr.2 rfl) hs.2
    case eql=>exact snd_val h (by simp [execOp,ho,ex,ey,eqGuard,binOp,Op.stringOp] <;> rfl) (cvBool.2 rfl) hs
    case neq=>exact snd_val h (by simp [execOp,ho,ex,ey,eqGuard,binOp,Op.stringOp] <;> rfl) (cvBool.2 rfl) hs
    case lss=>exact snd_val h (by simp [execOp,ho,ex,ey,eqGuard,binOp,Op.stringOp] <;> rfl) (cvBool.2 rfl) hs
    case leq=>exact snd_val h (by simp [execOp,ho,ex,ey,eqGuard,binOp,Op.stringOp] <;> rfl) (cvBool.2 rfl) hs
    case gtr=>exact snd_val h (by simp [execOp,ho,ex,ey,eqGuard,binOp,Op.stringOp] <;> rfl) (cvBool.2 rfl) hs
    case geq=>exact snd_val h (by simp [execOp,ho,ex,ey,eqGuard,binOp,Op.stringOp] <;> rfl) (cvBool.2 rfl) hs
  · rename_i p q hp hq
    rw [hp] at hx;rw [hq] at hy
    have ex:=cvBool.1 hx
    have ey:=cvBool.1 hy
    have hb:boolT T=true→Try.prog.underlying T=some .bool:=fun h=>by unfold boolT at h;split at h;assumption;cases h
    cases op <;> simp only [sBinL] at hs
    case eql=>exact snd_val h (by simp [execOp,ho,ex,ey,eqGuard,binOp,run_equal_bool w T p q (hb hs.1)] <;> rfl) (cvBool.2 rfl) hs.2
    case neq=>exact snd_val h (by simp [execOp,ho,ex,ey,eqGuard,binOp,run_equal_bool w T p q (hb hs.1)] <;> rfl) (cvBool.2 rfl) hs.2
  · rename_i p q hp hq
    rw [hp] at hx;rw [hq] at hy
    obtain ⟨us,g1,ex⟩:=cvAgg.1 hx
    obtain ⟨vs,g2,ey⟩:=cvAgg.1 hy
    have hb:eqTOK T p=true→eqTOK T q=true→(Op.equalIn 10000 T (.agg us.toArray) (.agg vs.toArray)).run Try.prog w=.ok (eqDs p q) w∧Try.prog.eqGuardType Try.prog.depth T=false:=fun h1 h2=>by
      unfold eqTOK at h1 h2
      simp only [Bool.and_eq_true,Bool.not_eq_true'] at h1 h2
      cases e:Try.prog.underlying T with
      | none=>rw [e] at h1;simp at h1
      | some t =>
        rw [e] at h1 h2
        cases t <;> simp only [Bool.false_eq_true,and_false] at h1 h2
        rename_i fs
        have hf:Try.prog.fieldsOf T=fs:=by simp [Program.fieldsOf,e]
        refine ⟨?_,h1.1.2⟩
        rw [run_equalIn_agg w 9999 T _ _ (by rw [hf];exact e) h1.1.1,hf]
        exact eqF_run h1.2 h2.2 g1 g2 rfl rfl
    cases op <;> simp only [sBinG] at hs
    case eql=>exact snd_val h (by
      obtain ⟨h1,h2⟩:=hb hs.1 hs.2.1
      simp [execOp,ho,ex,ey,run_eqGuard_agg w .eql T x y us.toArray vs.toArray h2,run_eql_struct w T us.toArray vs.toArray,h1] <;> rfl) (cvBool.2 rfl) hs.2.2
    case neq=>exact snd_val h (by
      obtain ⟨h1,h2⟩:=hb hs.1 hs.2.1
      simp [execOp,ho,ex,ey,run_eqGuard_agg w .neq T x y us.toArray vs.toArray h2,run_neq_struct w T us.toArray vs.toArray,h1] <;> rfl) (cvBool.2 rfl) hs.2.2
  · rename_i p q hp hq
    rw [hp] at hx;rw [hq] at hy
    obtain ⟨ex,ix⟩:=cvInt.1 hx
    have ey:a.eval y=.int .u64 q:=hy
    obtain ⟨rfl,h0,hk⟩:=hs
    exact snd_val h (by
      have h9:¬ q<0:=by omega
      simp [execOp,ho,ex,ey,eqGuard,binOp,Op.shift,h9] <;> rfl) (cvInt.2 ⟨rfl,shrI64 ix _⟩) hk
  · exact hs.elim
def sUn (op:UnOp) (N:Nat) (s:AS) (dst:Option Nat) (x:Operand) (K:AS→Prop):Prop:=match op,ev N s x with
  | .not,.d (.bool b)=>K (s.putD dst (.d (.bool (!b))))
  | .neg,.d (.int n)=>K (s.putD dst (.d (.int (IntKind.i64.wrap (0 - n)))))
  | _,_=>False
theorem snd_un {op:UnOp} {T:TypeId} {x:Operand} (h:RelG X G s a w) (ho:o.op=.unOp op T x) (hs:sUn op X.N s o.dst x K):Snd o X a w K:=by
  have hx:=h.ev x
  unfold sUn at hs
  split at hs
  · rename_i b hb
    rw [hb] at hx
    exact snd_val h (by simp [execOp,ho,cvBool.1 hx,Op.unary]) (cvBool.2 rfl) hs
  · rename_i n hn
    rw [hn] at hx
    exact snd_val (v:=.int .i64 (IntKind.i64.wrap (0 - n))) h (by simp [execOp,ho,(cvInt.1 hx).1,Op.unary,Op.intArith]) (cvInt.2 ⟨rfl,wrapI64 _⟩) hs
  · exact hs.elim
def sExtract (N:Nat) (s:AS) (dst:Option Nat) (t:Operand) (i:Nat) (K:AS→Prop):Prop:=match ev N s t with
  | .tup l=>match l[i]? with
    | some x=>K (s.putD dst x)
    | none=>False
  | _=>False
theorem snd_extract {t:Operand} {i:Nat} (h:RelG X G s a w) (ho:o.op=.extract t i) (hs:sExtract X.N s o.dst t i K):Snd o X a w K:=by
  have hx:=h.ev t
  unfold sExtract at hs
  split at hs
  · rename_i l hl
    rw [hl] at hx
    split at hs
    · rename_i x hx'
      obtain ⟨vs,e,hvs⟩:=hx
      obtain ⟨v,hv,hcv⟩:=hvs.at i x hx'
      exact snd_val h (by simp [execOp,ho,e,Instr.extract,hv]) hcv hs
    · exact hs.elim
  · exact hs.elim
def lenA:AV→Option Int
  | .nil=>some 0
  | .d (.sl _ l)=>some (l.length:Nat)
  | .d (.wh _ l)=>some (l.length:Nat)
  | .d .nl=>some 0
  | .buf _ _ _ l=>some (l.length:Nat)
  | .arr _ _ n=>some (n:Nat)
  | .d (.str b)=>some (b.size:Nat)
  | _=>none
end
section
variable {X:Cx} {G:Gh} {s:AS} {a:Act} {w:World} {K:AS→Prop} {o:Oper} {ty:TypeId→Option TyI}
theorem cx_sl {C:Nat→Nat→Prop} {k:Nat} {l:List DV} {v:Value} (h:CX C w (.sl k l) [v]):∃ a c vs,v=.slice a l.length c∧CXk C w k l vs∧FlatS C w a l.length c k vs:=by
  obtain ⟨a,n,c,vs,h1,h2,h3,h4⟩:=h
  simp only [List.cons.injEq,and_true] at h1
  subst h2
  exact ⟨a,c,vs,h1,h3,h4⟩
theorem FlatS.small {C:Nat→Nat→Prop} {a:Option Addr} {n c k:Nat} {vs:List Value} (h:FlatS C w a n c k vs):(n:Int)≤9223372036854775807:=by
  have h1:=h.2.1;have h2:=h.2.2.1;unfold maxLen at h2;omega
theorem lenSl {x:AV} {v:Value} {n:Int} (hv:CV G w x v) (hl:lenA x=some n) (hn:∀ b,x ≠ .d (.str b)):∃ a c,v=.slice a n.toNat c∧0≤n∧n≤9223372036854775807:=by
  cases x with
  | nil=>cases hl;simp only [CV] at hv;exact ⟨none,0,hv,by omega,by omega⟩
  | d x =>
    cases x with
    | sl k l =>
      cases hl
      obtain ⟨a,c,vs,h1,_,h3⟩:=cx_sl (cvSl.1 hv)
      exact ⟨a,c,by simpa using h1,by omega,h3.small⟩
    | nl=>cases hl;exact ⟨none,0,cvNl.1 hv,by omega,by omega⟩
    | wh k l =>
      cases hl
      obtain ⟨a,c,vs,h1,_,h3⟩:=cx_sl (wh_sl (cvWh.1 hv))
      exact ⟨a,c,by simpa using h1,by omega,h3.small⟩
    | str b=>exact absurd rfl (hn b)
    | _=>cases hl
  | buf g T k l =>
    cases hl
    obtain ⟨a,c,vs,h1,_,h3⟩:=cx_sl (wh_sl hv.2.2.2)
    exact ⟨a,c,by simpa using h1,by omega,h3.small⟩
  | arr o k n =>
    cases hl
    obtain ⟨c,h1,h2,h3⟩:=hv
    unfold maxLen at h3
    exact ⟨_,c,by simpa using h1,by omega,by omega⟩
  | _=>cases hl
def isStr:AV→Bool
  | .d (.str _)=>true
  | _=>false
def strSz:AV→Nat
  | .d (.str b)=>b.size
  | _=>0
def sLen (ty:TypeId→Option TyI) (N:Nat) (s:AS) (dst:Option Nat) (T:TypeId) (x:Operand) (K:AS→Prop):Prop:=match (ty T).bind (·.kd) with
  | some (.slice _)=>isStr (ev N s x)=false∧match lenA (ev N s x) with
    | some n=>K (s.putD dst (.d (.int n)))
    | none=>False
  | some .string=>isStr (ev N s x)=true∧(strSz (ev N s x):Int)≤9223372036854775807∧K (s.putD dst (.d (.int (strSz (ev N s x):Nat))))
  | _=>False
theorem TabOK.kd {T:TypeId} {d:TypeDesc} (ht:TabOK ty) (h:(ty T).bind (·.kd)=some d):Try.prog.underlying T=some d:=by
  cases hi:ty T with
  | none=>rw [hi] at h;cases h
  | some i=>rw [hi] at h;exact (ht T i hi).kd d h
theorem run_underlying {T:TypeId} {d:TypeDesc} (h:Try.prog.underlying T=some d) (w:World):(underlying T).run Try.prog w=.ok d w:=by simp [underlying,h]
def sMM (mx:Bool) (N:Nat) (s:AS) (dst:Option Nat) (x y:Operand) (K:AS→Prop):Prop:=match ev N s x,ev N s y with
  | .d (.int a),.d (.int b)=>K (s.putD dst (.d (.int (match mx with
    | true=>if b > a then b else a
    | false=>if b<a then b else a))))
  | _,_=>False
theorem snd_max {x y:Operand} {ats:Array TypeId} {c:Call} (h:RelG X G s a w) (ho:o.op=.call c) (hc:c = { callee:=.builtin .max,args:=#[x,y],argTypes:=ats }) (hs:sMM true X.N s o.dst x y K):Snd o X a w K:=by
  subst hc
  have hx:=h.ev x
  have hy:=h.ev y
  unfold sMM at hs
  split at hs
  · rename_i p q hp hq
    rw [hp] at hx;rw [hq] at hy
    obtain ⟨e1,i1⟩:=cvInt.1 hx
    obtain ⟨e2,i2⟩:=cvInt.1 hy
    refine snd_val h (v:=.int .i64 (if q > p then q else p)) ?_ (cvInt.2 ⟨rfl,by split <;> assumption⟩) hs
    simp [execOp,ho,resolve,invoke,builtin,e1,e2,run_max_int2]
  · exact hs.elim
theorem snd_min {x y:Operand} {ats:Array TypeId} {c:Call} (h:RelG X G s a w) (ho:o.op=.call c) (hc:c = { callee:=.builtin .min,args:=#[x,y],argTypes:=ats }) (hs:sMM false X.N s o.dst x y K):Snd o X a w K:=by
  subst hc
  have hx:=h.ev x
  have hy:=h.ev y
  unfold sMM at hs
  split at hs
  · rename_i p q hp hq
    rw [hp] at hx;rw [hq] at hy
    obtain ⟨e1,i1⟩:=cvInt.1 hx
    obtain ⟨e2,i2⟩:=cvInt.1 hy
    refine snd_val h (v:=.int .i64 (if q<p then q else p)) ?_ (cvInt.2 ⟨rfl,by split <;> assumption⟩) hs
    simp [execOp,ho,resolve,invoke,builtin,e1,e2,run_min_int2]
  · exact hs.elim
theorem snd_len {T:TypeId} {x:Operand} {c:Call} (ht:TabOK ty) (h:RelG X G s a w) (ho:o.op=.call c) (hc:c = { callee:=.builtin .len,args:=#[x],argTypes:=#[T] }) (hs:sLen ty X.N s o.dst T x K):Snd o X a w K:=by
  subst hc
  have hx:=h.ev x
  unfold sLen at hs
  split at hs
  · rename_i e he
    have hu:=run_underlying (ht.kd he)
    obtain ⟨h1,h2⟩:=hs
    split at h2
    · rename_i n hn
      obtain ⟨b,c,e2,h3,h4⟩:=lenSl hx hn (fun b e=>by rw [e] at h1;cases h1)
      refine snd_val h (v:=.int .i64 n) ?_ (cvInt.2 ⟨rfl,by unfold I64;omega⟩) h2
      simp [execOp,ho,resolve,invoke,builtin,Builtin.len_,hu,e2,goInt];omega
    · exact h2.elim
  · rename_i he
    have hu:=run_underlying (ht.kd he)
    obtain ⟨h1,h2,h3⟩:=hs
    cases hy:ev X.N s x with
    | d y =>
      rw [hy] at hx h1 h2 h3
      cases y with
      | str b =>
        have e2:=cvStr.1 hx
        refine snd_val h (v:=.int .i64 (b.size:Nat)) ?_ (cvInt.2 ⟨rfl,by unfold I64;simp only [strSz] at h2;omega⟩) h3
        simp [execOp,ho,resolve,invoke,builtin,Builtin.len_,hu,e2,goInt]
      | _=>cases h1
    | _=>rw [hy] at h1;cases h1
  · exact hs.elim
def sFieldAddr (ty:TypeId→Option TyI) (N:Nat) (s:AS) (dst:Option Nat) (T:TypeId) (x:Operand) (f:Nat) (K:AS→Prop):Prop:=match ty T with
  | some i=>match i.agg,i.flds[f]? with
    | true,some (off,T')=>match ty T' with
      | some j=>j.size ≠ 0∧match ev N s x with
        | .loc l=>K (s.putD dst (.loc (l.drop off)))
        | .ptr q r=>K (s.putD dst (.ptr q (r+off)))
        | _=>False
      | none=>False
    | _,_=>False
  | none=>False
theorem Addr.add_eq (b off n:Nat):(⟨b,off,none⟩:Addr).add n=⟨b,off+n,none⟩:=by
  unfold Addr.add
  split
  · rename_i h;subst h;rfl
  · rfl
theorem run_typeInfo {T:TypeId} {f:TypeInfo} (h:Try.prog.info? T=some f) (w:World):(typeInfo T).run Try.prog w=.ok f w:=by simp [typeInfo,h]
theorem run_sizeOf {T:TypeId} {i:TyI} (h:TyOK T i) (w:World):(sizeOf T).run Try.prog w=.ok i.size w:=by
  obtain ⟨f,z,h1,h2,_⟩:=h.info
  simp [sizeOf,run_typeInfo h1,h2]
theorem CXk1.drop {C:Nat→Nat→Prop} {m:List DV} {us:List Value} (h:CXk C w 1 m us) (j:Nat):CXk C w 1 (m.drop j) (us.drop j):=by
  induction m generalizing us j with
  | nil=>obtain rfl:=h;simp [CXk]
  | cons x m ih =>
    obtain ⟨u,v,rfl,h2,h3,h4⟩:=h
    cases j with
    | zero=>exact ⟨u,v,by simp,h2,h3,h4⟩
    | succ j =>
      have:(u ++ v).drop (j+1)=v.drop j:=by rw [List.drop_append,List.drop_eq_nil_of_le (by omega),h3];simp
      rw [this];simpa using ih h4 j
theorem CXk1.take {C:Nat→Nat→Prop} {m:List DV} {us:List Value} (h:CXk C w 1 m us) (j:Nat):CXk C w 1 (m.take j) (us.take j):=by
  induction m generalizing us j with
  | nil=>obtain rfl:=h;simp [CXk]
  | cons x m ih =>
    obtain ⟨u,v,rfl,h2,h3,h4⟩:=h
    cases j with
    | zero=>simp [CXk]
    | succ j =>
      obtain ⟨u0,rfl⟩:=List.length_eq_one_iff.1 h3
      simp only [List.singleton_append,List.take_succ_cons]
      exact ⟨[u0],_,rfl,h2,h3,ih h4 j⟩
theorem snd_fieldAddr {T:TypeId} {x:Operand} {f:Nat} (ht:TabOK ty) (h:RelG X G s a w) (ho:o.op=.fieldAddr T x f) (hs:sFieldAddr ty X.N s o.dst T x f K):Snd o X a w K:=by
  have hx:=h.ev x
  unfold sFieldAddr at hs
  split at hs
  · rename_i i hi
    split at hs
    · rename_i off T' hag hf
      split at hs
      · rename_i j hj
        obtain ⟨hne,hs⟩:=hs
        obtain ⟨fs,hu,hfs⟩:=(ht T i hi).agg hag
        obtain ⟨d,hd1,hd2,hd3⟩:=hfs f off T' hf
        have hsz:=run_sizeOf (ht T' j hj)
        have hru:=run_underlying hu
        split at hs
        · rename_i l hl
          rw [hl] at hx
          obtain ⟨b,q,us,e,h1,h2⟩:=hx
          refine snd_val (x:=.loc (l.drop off)) h (v:=.pointer (some ⟨b,q+off,none⟩)) ?_ ⟨b,q+off,us.drop off,rfl,CXk1.drop h1 off,fun k u hk=>?_⟩ hs
          · simp [execOp,ho,Instr.fieldAt,hru,hd1,e,Instr.sureAddr,fieldPlace,hd3,hsz,hne,hd2,Addr.add_eq]
          · rw [List.getElem?_drop] at hk
            have:=h2 _ _ hk
            rwa [← Nat.add_assoc] at this
        · rename_i q r hl
          rw [hl] at hx
          refine snd_val (x:=.ptr q (r+off)) h (v:=.pointer (some ⟨G.ad q,r+off,none⟩)) ?_ (by simp [CV]) hs
          simp only [CV] at hx
          simp [execOp,ho,Instr.fieldAt,hru,hd1,hx,Instr.sureAddr,fieldPlace,hd3,hsz,hne,hd2,Addr.add_eq]
        · exact hs.elim
      · exact hs.elim
    · exact hs.elim
  · exact hs.elim
def dcells:DV→List DV
  | .agg m=>m
  | x=>[x]
def isAgg':DV→Bool
  | .agg _=>true
  | _=>false
def leaves (l:List DV):Bool:=l.all fun x=>!isAgg' x
theorem cells_one {C:Nat→Nat→Prop} {x:DV} (hx:isAgg' x=false) {us:List Value} (h:CX C w x us):us.length=1:=by
  cases x with
  | agg m=>cases hx
  | int _=>obtain ⟨rfl,_⟩:=h;rfl
  | byte _=>obtain ⟨rfl,_⟩:=h;rfl
  | bool _=>obtain rfl:=h;rfl
  | str _=>obtain rfl:=h;rfl
  | sl k l=>obtain ⟨a,n,c,vs,rfl,_⟩:=h;rfl
  | wh k l=>obtain ⟨a,n,c,vs,rfl,_⟩:=h;rfl
  | nl=>obtain rfl:=h;rfl
  | hv v=>obtain ⟨rfl,_⟩:=h;rfl
theorem CXs.leaves {C:Nat→Nat→Prop}:∀ {m:List DV} {us:List Value},leaves m=true→CXs C w m us→CXk C w 1 m us
  | [],_,_,h=>h
  | x :: m,_,hl,h=>by
    obtain ⟨u,v,rfl,h2,h3⟩:=h
    simp only [Go.Proofs.Ytpbclpopoodklaa.leaves,List.all_cons,Bool.and_eq_true,Bool.not_eq_true'] at hl
    exact ⟨u,v,rfl,h2,cells_one hl.1 h2,CXs.leaves hl.2 h3⟩
theorem dcells_ok {C:Nat→Nat→Prop} {x:DV} {us:List Value} (hl:leaves (dcells x)=true) (h:CX C w x us):CXk C w 1 (dcells x) us:=by
  cases x with
  | agg m=>exact CXs.leaves hl h
  | _ =>
    have h1:=cells_one rfl h
    obtain ⟨u0,rfl⟩:=List.length_eq_one_iff.1 h1
    exact ⟨[u0],[],rfl,h,rfl,rfl⟩
def sIxD (k' k:Nat) (l:List DV) (j:Int) (s:AS) (dst:Option Nat) (K:AS→Prop):Prop :=
  k'=k∧0≤j∧j<(l.length:Nat)∧leaves (dcells (l.getD j.toNat (.bool false)))=true∧K (s.putD dst (.loc (dcells (l.getD j.toNat (.bool false)))))
def sIndexAddr (ty:TypeId→Option TyI) (N:Nat) (s:AS) (dst:Option Nat) (T:TypeId) (x ix:Operand) (K:AS→Prop):Prop:=match (ty T).bind (·.kd),ev N s ix with
  | some (.slice e),.d (.int j)=>match ty e with
    | some i=>match ev N s x with
      | .d (.sl k l)=>sIxD i.size k l j s dst K
      | .d (.wh k l)=>sIxD i.size k l j s dst K
      | .buf _ _ k l=>sIxD i.size k l j s dst K
      | .arr q k n=>i.size=k∧0≤j∧j<(n:Nat)∧K (s.putD dst (.ptr q (j.toNat*k)))
      | _=>False
    | none=>False
  | _,_=>False
theorem ixD_ok {e T:TypeId} {x ix:Operand} {k:Nat} {l:List DV} {j:Int} {i:TyI} (h:RelG X G s a w) (ho:o.op=.indexAddr T x ix) (hu:Try.prog.underlying T=some (.slice e)) (hi:TyOK e i) (hj:a.eval ix=.int .i64 j)
    (hx:CX G.C w (.sl k l) [a.eval x]) (hs:sIxD i.size k l j s o.dst K):Snd o X a w K:=by
  obtain ⟨rfl,h1,h2,h3,hs⟩:=hs
  obtain ⟨ad,c,vs,e1,g1,g2⟩:=cx_sl hx
  obtain ⟨b,off,rfl,hc⟩:=g2.2.2.2.2.2 (by omega)
  have hel:l[j.toNat]? = some (l.getD j.toNat (.bool false)):=by
    have:j.toNat<l.length:=by omega
    simp [List.getD,this]
  have hel2:=g1.at _ _ hel
  have hsz:=run_sizeOf hi
  have hru:=run_underlying hu
  have hjl:0≤j∧j<(l.length:Int):=⟨h1,h2⟩
  refine snd_val (x:=.loc (dcells (l.getD j.toNat (.bool false)))) h (v:=.pointer (some ⟨b,off+j.toNat*i.size,none⟩)) ?_ ⟨b,_,_,rfl,dcells_ok h3 hel2,fun q u hq=>?_⟩ hs
  · simp [execOp,ho,Instr.indexAt,hru,e1,hj,asIntOf,hsz,hjl,Addr.add_eq]
  · have hq2:q<i.size:=by
      have:=(List.getElem?_eq_some_iff.1 hq).1
      simp only [List.length_take] at this;omega
    rw [List.getElem?_take_of_lt hq2,List.getElem?_drop] at hq
    have:=hc _ _ hq
    rwa [← Nat.add_assoc] at this
theorem snd_indexAddr {T:TypeId} {x ix:Operand} (ht:TabOK ty) (h:RelG X G s a w) (ho:o.op=.indexAddr T x ix) (hs:sIndexAddr ty X.N s o.dst T x ix K):Snd o X a w K:=by
  have hx:=h.ev x
  have hj:=h.ev ix
  unfold sIndexAddr at hs
  split at hs
  · rename_i e j he hj'
    rw [hj'] at hj
    have hj2:=(cvInt.1 hj).1
    split at hs
    · rename_i i hi
      split at hs
      · rename_i k l hl
        rw [hl] at hx
        exact ixD_ok h ho (ht.kd he) (ht _ _ hi) hj2 (cvSl.1 hx) hs
      · rename_i k l hl
        rw [hl] at hx
        exact ixD_ok h ho (ht.kd he) (ht _ _ hi) hj2 (wh_sl (cvWh.1 hx)) hs
      · rename_i g T' k l hl
        rw [hl] at hx
        exact ixD_ok h ho (ht.kd he) (ht _ _ hi) hj2 (wh_sl hx.2.2.2) hs
      · rename_i q k n hl
        rw [hl] at hx
        obtain ⟨c,e1,_,_⟩:=hx
        obtain ⟨rfl,h1,h2,hs⟩:=hs
        have hru:=run_underlying (ht.kd he)
        have hsz:=run_sizeOf (ht _ _ hi)
        have hjl:0≤j∧j<(n:Int):=⟨h1,h2⟩
        refine snd_val (x:=.ptr q (j.toNat*i.size)) h (v:=.pointer (some ⟨G.ad q,j.toNat*i.size,none⟩)) ?_ (by simp [CV]) hs
        simp [execOp,ho,Instr.indexAt,hru,e1,hj2,asIntOf,hsz,hjl,Addr.add_eq]
      · exact hs.elim
    · exact hs.elim
  · exact hs.elim
end
theorem run_loadFrom {w:World} {b o:Nat}:∀ (n i:Nat) (us:List Value) (acc:Array Value),us.length=n→(∀ (j:Nat) (u:Value),us[j]? = some u→w.cell? ⟨b,o+i+j,none⟩=some u) →
    (loadCellsFrom ⟨b,o,none⟩ i n acc).run Try.prog w=.ok (acc ++ us.toArray) w
  | 0,i,us,acc,hl,h=>by
    obtain rfl:=List.eq_nil_of_length_eq_zero hl
    simp [loadCellsFrom]
  | n+1,i,[],acc,hl,h=>by simp at hl
  | n+1,i,u :: us,acc,hl,h=>by
    have h0:=h 0 u (by simp)
    rw [Nat.add_zero] at h0
    have ih:=run_loadFrom n (i+1) us (acc.push u) (by simpa using hl) (fun j u' hu=>by
      have:=h (j+1) u' (by simpa using hu)
      rwa [show o+i+(j+1)=o+(i+1)+j by omega] at this)
    simp only [loadCellsFrom,Sem.run_bind,run_load,Addr.add_eq,h0,Result.andThen_ok,ih]
    simp
theorem run_loadCells {w:World} {b o n:Nat} {us:List Value} (hl:us.length=n) (h:∀ (j:Nat) (u:Value),us[j]? = some u→w.cell? ⟨b,o+j,none⟩=some u):(loadCells ⟨b,o,none⟩ n).run Try.prog w=.ok us.toArray w:=by
  unfold loadCells
  rw [run_loadFrom n 0 us #[] hl (by simpa using h)]
  simp
theorem run_isAgg {T:TypeId} {i:TyI} (h:TyOK T i) (w:World):(isAgg T).run Try.prog w=.ok i.agg w:=by
  cases ha:i.agg with
  | true=>obtain ⟨fs,hu,_⟩:=h.agg ha;simp [isAgg,run_underlying hu]
  | false =>
    obtain ⟨_,d,hu,h1,h2⟩:=h.flat ha
    simp only [isAgg,Sem.run_bind,run_underlying hu,Result.andThen_ok]
    cases d <;> first | rfl | exact absurd rfl (h1 _) | exact absurd rfl (h2 _ _)
theorem run_loadVar {T:TypeId} {i:TyI} (h:TyOK T i) {w:World} {b o:Nat} {us:List Value} (hl:us.length=i.size) (hc:∀ (j:Nat) (u:Value),us[j]? = some u→w.cell? ⟨b,o+j,none⟩=some u) :
    ∃ v,(loadVar T ⟨b,o,none⟩).run Try.prog w=.ok v w∧(i.agg=true∧v=.agg us.toArray∨i.agg=false∧us=[v]):=by
  cases ha:i.agg with
  | true=>exact ⟨_,by simp [loadVar,run_isAgg h,ha,run_sizeOf h,run_loadCells hl hc],.inl ⟨rfl,rfl⟩⟩
  | false =>
    have hs:=(h.flat ha).1
    rw [hs] at hl
    obtain ⟨u,rfl⟩:=List.length_eq_one_iff.1 hl
    have h0:=hc 0 u (by simp)
    rw [Nat.add_zero] at h0
    exact ⟨u,by simp [loadVar,run_isAgg h,ha,h0],.inr ⟨rfl,rfl⟩⟩
def toDV:Bool→AV→Option DV
  | _,.d x=>some x
  | false,.nil=>some (.sl 1 [])
  | true,.nil=>some .nl
  | false,.buf _ _ k l=>some (.sl k l)
  | true,.buf _ _ k l=>some (.wh k l)
  | _,_=>none
def toDVs (b:Bool):List AV→Option (List DV)
  | []=>some []
  | x :: l=>match toDV b x,toDVs b l with
    | some y,some m=>some (y :: m)
    | _,_=>none
section
variable {X:Cx} {G:Gh} {s:AS} {a:Act} {w:World} {K:AS→Prop} {o:Oper} {ty:TypeId→Option TyI}
theorem cx_whnil (C:Nat→Nat→Prop) (w:World) (k:Nat):CX C w (.wh k []) [.slice none 0 0]:=by
  obtain ⟨a,n,c,vs,h1,h2,h3,h4⟩:=cx_nil C w k
  exact ⟨a,n,c,vs,h1,h2,h3,h4,fun h=>by simp only [List.length_nil] at h2;omega⟩
theorem toDV_ok {b:Bool} {x:AV} {y:DV} {v:Value} (h:toDV b x=some y) (hv:CV G w x v):CV G w (.d y) v:=by
  cases x with
  | d x=>cases b <;> (cases h;exact hv)
  | nil =>
    simp only [CV] at hv;subst hv
    cases b <;> cases h
    · exact cvSl.2 (cx_nil _ _ _)
    · exact cvNl.2 rfl
  | buf g T k l =>
    cases b <;> cases h
    · exact cvSl.2 (wh_sl hv.2.2.2)
    · exact cvWh.2 hv.2.2.2
  | _=>cases b <;> cases h
theorem toDVs_ok {b:Bool}:∀ {l:List AV} {m:List DV} {us:List Value},toDVs b l=some m→CVs G w l us→(∀ u∈us,u.oneCell'=true)→CXk G.C w 1 m us∧leaves m=true
  | [],m,us,h,hv,_=>by cases h;obtain rfl:=hv;exact ⟨rfl,rfl⟩
  | x :: l,m,us,h,hv,h1=>by
    unfold toDVs at h
    split at h
    · rename_i y m' e1 e2
      cases h
      obtain ⟨v,us',rfl,h2,h3⟩:=hv
      obtain ⟨g1,g2⟩:=toDVs_ok e2 h3 (fun u hu=>h1 u (List.mem_cons_of_mem _ hu))
      have hd:=toDV_ok e1 h2
      obtain ⟨us2,h4,h5⟩:=hd
      have hv1:=h1 v (List.mem_cons_self ..)
      rcases h5 with ⟨⟨m2,rfl⟩,rfl⟩ | ⟨h5,rfl⟩
      · cases hv1
      · have hy:isAgg' y=false:=by
          cases y with
          | agg m2=>exact absurd rfl (h5 m2)
          | _=>rfl
        exact ⟨⟨[v],us',rfl,h4,rfl,g1⟩,by simp only [leaves,List.all_cons,hy,Bool.not_false,Bool.true_and];exact g2⟩
    · cases h
theorem CVs.drop:∀ {l:List AV} {us:List Value} (j:Nat),CVs G w l us→CVs G w (l.drop j) (us.drop j)
  | [],us,j,h=>by obtain rfl:=h;simp [CVs]
  | x :: l,us,0,h=>by simpa using h
  | x :: l,us,j+1,h=>by obtain ⟨v,us',rfl,h2,h3⟩:=h;simpa using CVs.drop j h3
theorem CVs.take:∀ {l:List AV} {us:List Value} (j:Nat),CVs G w l us→CVs G w (l.take j) (us.take j)
  | [],us,j,h=>by obtain rfl:=h;simp [CVs]
  | x :: l,us,0,h=>by simp [CVs]
  | x :: l,us,j+1,h=>by obtain ⟨v,us',rfl,h2,h3⟩:=h;exact ⟨v,us'.take j,by simp,h2,CVs.take j h3⟩
theorem CVs.app:∀ {l l':List AV} {us us':List Value},CVs G w l us→CVs G w l' us'→CVs G w (l ++ l') (us ++ us')
  | [],l',us,us',h,h'=>by obtain rfl:=h;simpa using h'
  | x :: l,l',us,us',h,h'=>by obtain ⟨v,us2,rfl,h2,h3⟩:=h;exact ⟨v,us2 ++ us',by simp,h2,CVs.app h3 h'⟩
def ldM (wh st:Bool) (l:List AV):Option AV:=match wh with
  | false=>(toDVs false l).map fun m=>.d (.agg m)
  | true=>match st with
    | true=>some (.st l)
    | false=>(toDVs true l).map fun m=>.d (.agg m)
theorem ldM_cases {wh st:Bool} {l:List AV} {x:AV} (h:ldM wh st l=some x):x=.st l∨∃ m,toDVs wh l=some m∧x=.d (.agg m):=by
  cases wh with
  | false=>simp only [ldM,Option.map_eq_some_iff] at h;obtain ⟨m,h1,rfl⟩:=h;exact .inr ⟨m,h1,rfl⟩
  | true =>
    cases st with
    | true=>simp only [ldM,Option.some.injEq] at h;exact .inl h.symm
    | false=>simp only [ldM,Option.map_eq_some_iff] at h;obtain ⟨m,h1,rfl⟩:=h;exact .inr ⟨m,h1,rfl⟩
def sLoadO (i:TyI) (l:List AV) (r:Nat) (s:AS) (dst:Option Nat) (K:AS→Prop):Prop:=match i.agg with
  | true=>r+i.size≤l.length∧match ldM i.wh i.st ((l.drop r).take i.size) with
    | some x=>K (s.putD dst x)
    | none=>False
  | false=>r<l.length∧K (s.putD dst (l.getD r .junk))
def sLoad (ty:TypeId→Option TyI) (N:Nat) (s:AS) (dst:Option Nat) (T:TypeId) (x:Operand) (K:AS→Prop):Prop:=match ty T with
  | some i=>match ev N s x with
    | .loc l=>(match i.agg with
      | true=>i.size≤l.length∧K (s.putD dst (.d (.agg (l.take i.size))))
      | false=>0<l.length∧isAgg' (l.getD 0 (.bool false))=false∧K (s.putD dst (.d (l.getD 0 (.bool false)))))
    | .ptr q r=>(match s.ob q with
      | some l=>sLoadO i l r s dst K
      | none=>False)
    | _=>False
  | none=>False
theorem CXs_of_k1 {C:Nat→Nat→Prop}:∀ {m:List DV} {us:List Value},CXk C w 1 m us→CXs C w m us:=CX.agg_of
theorem snd_load {T:TypeId} {x:Operand} (ht:TabOK ty) (h:RelG X G s a w) (ho:o.op=.load T x) (hs:sLoad ty X.N s o.dst T x K):Snd o X a w K:=by
  have hx:=h.ev x
  unfold sLoad at hs
  split at hs
  · rename_i i hi
    have hT:=ht T i hi
    split at hs
    · rename_i l hl
      rw [hl] at hx
      obtain ⟨b,q,us,e,h1,h2⟩:=hx
      have hlen:=h1.len
      split at hs
      · rename_i hag
        obtain ⟨h3,hs⟩:=hs
        obtain ⟨v,hr,hv⟩:=run_loadVar hT (w:=w) (b:=b) (o:=q) (us:=us.take i.size) (by simp;omega) (fun j u hu=>by
          have hj:j<i.size:=by have:=(List.getElem?_eq_some_iff.1 hu).1;simp at this;omega
          rw [List.getElem?_take_of_lt hj] at hu
          exact (h2 j u hu).2)
        rcases hv with ⟨_,rfl⟩ | ⟨h0,_⟩
        · refine snd_val h ?_ (cvAgg.2 ⟨_,CXs_of_k1 (CXk1.take h1 i.size),rfl⟩) hs
          simp only [execOp,ho,Instr.loadAt,e,Instr.sureAddr,Sem.run_bind,Sem.run_pure,Result.andThen_ok,hr]
        · rw [hag] at h0;cases h0
      · rename_i hag
        obtain ⟨h3,h4,hs⟩:=hs
        obtain ⟨u0,ul,rfl⟩:∃ u0 ul,us=u0 :: ul:=by cases us with | nil=>simp at hlen;omega | cons u ul=>exact ⟨u,ul,rfl⟩
        obtain ⟨v,hr,hv⟩:=run_loadVar hT (w:=w) (b:=b) (o:=q) (us:=[u0]) (by simp [(hT.flat hag).1]) (fun j u hu=>by
          cases j with
          | zero=>simp at hu;subst hu;exact (h2 0 u0 (by simp)).2
          | succ j=>simp at hu)
        rcases hv with ⟨h0,_⟩ | ⟨_,h5⟩
        · rw [hag] at h0;cases h0
        · cases h5
          cases l with
          | nil=>simp at h3
          | cons y l =>
            obtain ⟨u,vv,e2,h6,h7,_⟩:=h1
            obtain ⟨u',rfl⟩:=List.length_eq_one_iff.1 h7
            simp only [List.singleton_append,List.cons.injEq] at e2
            obtain ⟨rfl,rfl⟩:=e2
            simp only [List.getD_cons_zero] at h4 hs
            refine snd_val h ?_ (CV.dd h6 (.inr ⟨fun m e=>(by subst e;cases h4),rfl⟩)) hs
            simp only [execOp,ho,Instr.loadAt,e,Instr.sureAddr,Sem.run_bind,Sem.run_pure,Result.andThen_ok,hr]
    · rename_i q r hl
      rw [hl] at hx
      simp only [CV] at hx
      split at hs
      · rename_i l hob
        obtain ⟨_,_,us,h1,h2,h3⟩:=h.ob q l hob
        have hlen:=h1.len
        unfold sLoadO at hs
        split at hs
        · rename_i hag
          obtain ⟨h4,hs⟩:=hs
          split at hs
          · rename_i x0 hm0
            obtain ⟨v,hr,hv⟩:=run_loadVar hT (w:=w) (b:=G.ad q) (o:=r) (us:=(us.drop r).take i.size) (by simp;omega) (fun j u hu=>by
              have hj:j<i.size:=by have:=(List.getElem?_eq_some_iff.1 hu).1;simp at this;omega
              rw [List.getElem?_take_of_lt hj,List.getElem?_drop] at hu
              exact (h3 _ u hu).1)
            rcases hv with ⟨_,rfl⟩ | ⟨h0,_⟩
            · refine snd_val h ?_ (v:=.agg ((us.drop r).take i.size).toArray) ?_ hs
              rotate_left
              · rcases ldM_cases hm0 with rfl | ⟨m,hm,rfl⟩
                · exact ⟨_,rfl,fun u hu=>h2 u (List.mem_of_mem_drop (List.mem_of_mem_take hu)),(h1.drop r).take i.size⟩
                · obtain ⟨g1,g2⟩:=toDVs_ok hm ((h1.drop r).take i.size) (fun u hu=>h2 u (List.mem_of_mem_drop (List.mem_of_mem_take hu)))
                  exact cvAgg.2 ⟨_,CXs_of_k1 g1,rfl⟩
              simp only [execOp,ho,Instr.loadAt,hx,Instr.sureAddr,Sem.run_bind,Sem.run_pure,Result.andThen_ok,hr]
            · rw [hag] at h0;cases h0
          · exact hs.elim
        · rename_i hag
          obtain ⟨h4,hs⟩:=hs
          obtain ⟨v0,hv0,hc0⟩:=h1.at r (l.getD r .junk) (by simp [List.getD,h4])
          obtain ⟨v,hr,hv⟩:=run_loadVar hT (w:=w) (b:=G.ad q) (o:=r) (us:=[v0]) (by simp [(hT.flat hag).1]) (fun j u hu=>by
            cases j with
            | zero=>simp at hu;subst hu;exact (h3 _ _ hv0).1
            | succ j=>simp at hu)
          rcases hv with ⟨h0,_⟩ | ⟨_,h5⟩
          · rw [hag] at h0;cases h0
          · cases h5
            refine snd_val h ?_ hc0 hs
            simp only [execOp,ho,Instr.loadAt,hx,Instr.sureAddr,Sem.run_bind,Sem.run_pure,Result.andThen_ok,hr]
      · exact hs.elim
    · exact hs.elim
  · exact hs.elim
theorem RelG.write {w':World} {q:Nat} {l l':List AV} (h:RelG X G s a w) (hq:s.ob q=some l) (hg:w.grownBy w' (some (G.ad q))) (hsz:w'.heap.size=w.heap.size)
    (hn:∃ us,CVs G w l' us∧(∀ u∈us,u.oneCell'=true)∧∀ (i:Nat) (u:Value),us[i]? = some u→w'.cell? ⟨G.ad q,i,none⟩=some u∧w'.frozen? ⟨G.ad q,i,none⟩=false):RelG X G (s.setOb q (some l')) a w':=by
  have hq':s.ob q ≠ none:=by rw [hq];exact fun e=>(by cases e)
  have hob:=h.ob q l hq
  have hblk:∀ b,b<w.heap.size→b ≠ G.ad q→w'.heap[b]? = w.heap[b]?:=fun b hb hne=>hg.block b hb (fun e=>hne (Option.some.inj e))
  have hC:∀ b i,G.C b i→b ≠ G.ad q:=fun b i hc e=>hob.2.1 i (e ▸ hc)
  have hle:GLe (fun _=>true) (fun _=>true) G G w w':=⟨fun b i hc=>⟨hc,World.cell?_of_block (w:=w) (hblk b (h.cs b i hc) (hC b i hc))⟩,fun _ _=>⟨rfl,rfl,rfl⟩,fun _ _=>rfl⟩
  refine ⟨⟨hg.os.trans h.fr.os,hg.tape.trans h.fr.tape,hg.output.trans h.fr.output,by rw [hsz];exact h.fr.size,fun k hk hL=>?_⟩,h.df,h.n,fun t ht=>(h.tm t ht).keep hle,fun g=>?_,fun o l2 ho=>?_,fun b i hc=>by rw [hsz];exact h.cs b i hc,h.d1,fun o o' h1 h2=>?_,fun o g h1=>?_,fun o h1=>?_,h.lc,h.nl,fun i h1=>?_,h.c0,fun b i hc hz=>by rw [World.frozen?_of_block (w:=w) (hblk b (h.cs b i hc) (hC b i hc))];exact h.uf b i hc hz⟩
  · rw [hblk k (Nat.lt_of_lt_of_le hk h.fr.size) ?_]
    · exact h.fr.block k hk hL
    · rintro rfl
      rcases (h.ow q hq').2 with h1 | h1
      · omega
      · exact hL h1
  · obtain ⟨a0,n0,c0,vs,e1,e2,e3⟩:=h.bf g
    refine ⟨a0,n0,c0,vs,e1,⟨e2.1.kept hg ?_,e2.2⟩,e3⟩
    right
    rw [← e1];exact h.d3 q g hq'
  · simp only [AS.setOb] at ho
    split at ho
    · rename_i e
      subst e
      cases ho
      obtain ⟨us,g1,g2,g3⟩:=hn
      exact ⟨by rw [hsz];exact hob.1,hob.2.1,us,g1.keep hle,g2,g3⟩
    · rename_i e
      obtain ⟨g1,g2,us,g3,g4,g5⟩:=h.ob o l2 ho
      have hne:G.ad o ≠ G.ad q:=fun e2=>e (h.d2 o q (by rw [ho];exact fun e=>(by cases e)) hq' e2)
      refine ⟨by rw [hsz];exact g1,g2,us,g3.keep hle,g4,fun i u hu=>?_⟩
      rw [World.cell?_of_block (w:=w) (hblk _ g1 hne),World.frozen?_of_block (w:=w) (hblk _ g1 hne)]
      exact g5 i u hu
  · exact h.d2 o o' (by intro e;apply h1;simp only [AS.setOb];split;(rename_i e2;subst e2;rw [hq] at e;cases e);exact e) (by intro e;apply h2;simp only [AS.setOb];split;(rename_i e2;subst e2;rw [hq] at e;cases e);exact e)
  · exact h.d3 o g (by intro e;apply h1;simp only [AS.setOb];split;(rename_i e2;subst e2;rw [hq] at e;cases e);exact e)
  · exact h.ow o (by intro e;apply h1;simp only [AS.setOb];split;(rename_i e2;subst e2;rw [hq] at e;cases e);exact e)
  · exact h.ln i (by intro e;apply h1;simp only [AS.setOb];split;(rename_i e2;subst e2;rw [hq] at e;cases e);exact e)
end
def isCell:AV→Bool
  | .d (.agg _)=>false
  | .tup _=>false
  | .st _=>false
  | .junk=>false
  | .cst _=>false
  | _=>true
def splice (l:List AV) (r:Nat) (m:List AV):List AV:=l.take r ++ (m ++ l.drop (r+m.length))
section
variable {X:Cx} {G:Gh} {s:AS} {a:Act} {w:World} {K:AS→Prop} {o:Oper} {ty:TypeId→Option TyI}
theorem isCell_ok {x:AV} {v:Value} (hx:isCell x=true) (hv:CV G w x v):v.oneCell'=true∧v.cells = #[v]:=by
  cases x with
  | junk=>cases hx
  | tup l=>cases hx
  | st l=>cases hx
  | d y =>
    obtain ⟨us,h1,h2⟩:=hv
    rcases h2 with ⟨⟨m,rfl⟩,_⟩ | ⟨h2,rfl⟩
    · cases hx
    · have:=CX.one y _ h1 v (by simp)
      refine ⟨this,?_⟩
      cases v <;> first | rfl | cases this
  | nil=>simp only [CV] at hv;subst hv;exact ⟨rfl,rfl⟩
  | buf g T k l=>obtain ⟨a0,c,vs,e,_⟩:=cx_sl (wh_sl hv.2.2.2);subst e;exact ⟨rfl,rfl⟩
  | loc m=>obtain ⟨b,q,us,e,_⟩:=hv;subst e;exact ⟨rfl,rfl⟩
  | ptr q i=>simp only [CV] at hv;subst hv;exact ⟨rfl,rfl⟩
  | arr q k n=>obtain ⟨c,e,_⟩:=hv;subst e;exact ⟨rfl,rfl⟩
  | fn f l=>obtain ⟨vs,e,_⟩:=hv;subst e;exact ⟨rfl,rfl⟩
  | cst c=>cases hx
  | any P =>
    obtain ⟨y,_,_,h1⟩:=hv
    have:=CX.one y _ h1 v (by simp)
    refine ⟨this,?_⟩
    cases v <;> first | rfl | cases this
def World.setCells (w:World) (b o:Nat):List Value→World
  | []=>w
  | v :: vs=>World.setCells (w.setCell ⟨b,o,none⟩ v) b (o+1) vs
theorem setCells_facts:∀ (vs:List Value) (w:World) (b o:Nat),(World.setCells w b o vs).heap.size=w.heap.size∧w.grownBy (World.setCells w b o vs) (some b) ∧
    (∀ i,i<o∨o+vs.length≤i→(World.setCells w b o vs).cell? ⟨b,i,none⟩=w.cell? ⟨b,i,none⟩)∧(∀ i,(World.setCells w b o vs).frozen? ⟨b,i,none⟩=w.frozen? ⟨b,i,none⟩) ∧
    ((∀ i,i<vs.length→∃ u,w.cell? ⟨b,o+i,none⟩=some u)→∀ (i:Nat) (v:Value),vs[i]? = some v→(World.setCells w b o vs).cell? ⟨b,o+i,none⟩=some v)
  | [],w,b,o=>⟨rfl,World.grownBy.refl w _,fun i _=>rfl,fun _=>rfl,fun _ i v h=>by simp at h⟩
  | v :: vs,w,b,o=>by
    obtain ⟨h1,h2,h3,h4,h5⟩:=setCells_facts vs (w.setCell ⟨b,o,none⟩ v) b (o+1)
    have hs:(w.setCell ⟨b,o,none⟩ v).heap.size=w.heap.size:=by simp [World.setCell]
    refine ⟨h1.trans hs,⟨h2.os,h2.tape,h2.output,(by show w.heap.size≤(World.setCells (w.setCell ⟨b,o,none⟩ v) b (o+1) vs).heap.size;rw [h1,hs];exact Nat.le_refl _),fun k hk hne=>?_⟩,fun i hi=>?_,fun i=>?_,fun hc i u hu=>?_⟩
    · have h6:=h2.block k (by rw [hs];exact hk) hne
      show (World.setCells (w.setCell ⟨b,o,none⟩ v) b (o+1) vs).heap[k]? = _
      rw [h6,Below.heap_setCell _ _ _ _ (by rintro rfl;exact hne rfl)]
    · have:=h3 i (by simp only [List.length_cons] at hi;omega)
      show (World.setCells (w.setCell ⟨b,o,none⟩ v) b (o+1) vs).cell? _=_
      rw [this]
      exact World.cell?_setCell_other _ _ _ _ (by intro e;have e2:=congrArg Addr.off e;simp only at e2;simp only [List.length_cons] at hi;omega)
    · show (World.setCells (w.setCell ⟨b,o,none⟩ v) b (o+1) vs).frozen? _=_
      rw [h4 i];simp
    · cases i with
      | zero =>
        simp only [List.getElem?_cons_zero,Option.some.injEq] at hu
        subst hu
        show (World.setCells (w.setCell ⟨b,o,none⟩ v) b (o+1) vs).cell? _=_
        rw [h3 (o+0) (by omega)]
        obtain ⟨u,hu⟩:=hc 0 (by simp)
        simp only [Nat.add_zero] at hu ⊢
        exact World.cell?_setCell_same' _ _ _ (by rw [hu];rfl)
      | succ i =>
        have:=h5 (fun j hj=>by
          obtain ⟨u',hu'⟩:=hc (j+1) (by simp;omega)
          refine ⟨u',?_⟩
          rw [World.cell?_setCell_other _ _ _ _ (by intro e;have e2:=congrArg Addr.off e;simp only at e2;omega),show o+1+j=o+(j+1) by omega];exact hu') i u (by simpa using hu)
        rw [show o+(i+1)=o+1+i by omega];exact this
theorem run_storeCells:∀ (vs:List Value) (w:World) (b o i:Nat),(∀ v∈vs,v.oneCell'=true)→(∀ j,j<vs.length→∃ u,w.cell? ⟨b,o+i+j,none⟩=some u)→(∀ j,j<vs.length→w.frozen? ⟨b,o+i+j,none⟩=false) →
    (storeCells ⟨b,o,none⟩ vs i).run Try.prog w=.ok () (World.setCells w b (o+i) vs)
  | [],w,b,o,i,_,_,_=>by simp [storeCells,World.setCells]
  | v :: vs,w,b,o,i,h1,h2,h3=>by
    obtain ⟨u,hu⟩:=h2 0 (by simp)
    have hf:=h3 0 (by simp)
    rw [Nat.add_zero] at hu hf
    have ih:=run_storeCells vs (w.setCell ⟨b,o+i,none⟩ v) b o (i+1) (fun x hx=>h1 x (List.mem_cons_of_mem _ hx)) (fun j hj=>by
      obtain ⟨u',hu'⟩:=h2 (j+1) (by simp;omega)
      exact ⟨u',by rw [World.cell?_setCell_other _ _ _ _ (by intro e;have e2:=congrArg Addr.off e;simp only at e2;omega),show o+(i+1)+j=o+i+(j+1) by omega];exact hu'⟩) (fun j hj=>by
      have:=h3 (j+1) (by simp;omega)
      rw [show o+(i+1)+j=o+i+(j+1) by omega];simpa using this)
    simp only [storeCells,Sem.run_bind,run_store _ _ _ _ _ (h1 v (List.mem_cons_self ..)),Addr.add_eq,hu,hf,Result.andThen_ok]
    simpa [World.setCells,Nat.add_assoc] using ih
theorem run_storeVar {T:TypeId} {i:TyI} (h:TyOK T i) {w:World} {b o:Nat} {v:Value} (hs:v.cells.size=i.size) (h1:∀ u∈v.cells.toList,u.oneCell'=true) (h2:∀ j,j<i.size→∃ u,w.cell? ⟨b,o+j,none⟩=some u) (h3:∀ j,j<i.size→w.frozen? ⟨b,o+j,none⟩=false) :
    (storeVar T ⟨b,o,none⟩ v).run Try.prog w=.ok () (World.setCells w b o v.cells.toList):=by
  have:=run_storeCells v.cells.toList w b o 0 h1 (by simpa [hs] using h2) (by simpa [hs] using h3)
  simp only [storeVar,Sem.run_bind,run_sizeOf h,Result.andThen_ok,hs,ne_eq,not_true,if_false]
  simpa using this
theorem snd_unit {s':AS} {w':World} (h:RelG X G s' a w') (hr:(execOp a.eval o).run Try.prog w=.ok .skip w') (hd:o.dst=none) (hK:K s'):Snd o X a w K:=by
  intro nx Q hn
  unfold Oper.wp
  rw [hr]
  simp only [Oper.upon,hd]
  exact hn _ _ _ hK ⟨G,h⟩
def sStoreO (i:TyI) (q:Nat) (l:List AV) (r:Nat) (x:AV) (s:AS) (K:AS→Prop):Prop:=match i.agg with
  | true=>(match x with
    | .d (.agg m)=>m.length=i.size∧leaves m=true∧r+i.size≤l.length∧K (s.setOb q (some (splice l r (m.map .d))))
    | .st m=>m.length=i.size∧r+i.size≤l.length∧K (s.setOb q (some (splice l r m)))
    | _=>False)
  | false=>isCell x=true∧r<l.length∧K (s.setOb q (some (l.set r x)))
def sStore (ty:TypeId→Option TyI) (N:Nat) (s:AS) (dst:Option Nat) (T:TypeId) (p x:Operand) (K:AS→Prop):Prop:=match dst,ty T with
  | none,some i=>(match ev N s p with
    | .ptr q r=>(match s.ob q with
      | some l=>sStoreO i q l r (ev N s x) s K
      | none=>False)
    | _=>False)
  | _,_=>False
theorem CXk1.cvs {m:List DV} {us:List Value} (h:CXk G.C w 1 m us) (hl:leaves m=true):CVs G w (m.map .d) us:=by
  induction m generalizing us with
  | nil=>exact h
  | cons x m ih =>
    obtain ⟨u,v,rfl,h2,h3,h4⟩:=h
    obtain ⟨u0,rfl⟩:=List.length_eq_one_iff.1 h3
    simp only [leaves,List.all_cons,Bool.and_eq_true,Bool.not_eq_true'] at hl
    exact ⟨u0,v,rfl,⟨[u0],h2,.inr ⟨fun m e=>(by subst e;cases hl.1),rfl⟩⟩,ih h4 hl.2⟩
theorem RelG.stored {q:Nat} {l:List AV} {r:Nat} {xs:List AV} {vs:List Value} (h:RelG X G s a w) (hq:s.ob q=some l) (hx:CVs G w xs vs) (h1:∀ u∈vs,u.oneCell'=true) (hr:r+xs.length≤l.length) :
    (∀ j,j<vs.length→∃ u,w.cell? ⟨G.ad q,r+j,none⟩=some u)∧(∀ j,j<vs.length→w.frozen? ⟨G.ad q,r+j,none⟩=false)∧RelG X G (s.setOb q (some (splice l r xs))) a (World.setCells w (G.ad q) r vs):=by
  obtain ⟨_,_,us,g1,g2,g3⟩:=h.ob q l hq
  have hl1:=g1.len
  have hl2:=hx.len
  have hcell:∀ j,j<vs.length→∃ u,w.cell? ⟨G.ad q,r+j,none⟩=some u∧w.frozen? ⟨G.ad q,r+j,none⟩=false:=fun j hj=>by
    have hj2:r+j<us.length:=by omega
    exact ⟨us[r+j],g3 (r+j) _ (by simp [hj2])⟩
  obtain ⟨e1,e2,e3,e4,e5⟩:=setCells_facts vs w (G.ad q) r
  refine ⟨fun j hj=>⟨_,(hcell j hj).choose_spec.1⟩,fun j hj=>(hcell j hj).choose_spec.2,h.write hq e2 e1 ⟨us.take r ++ (vs ++ us.drop (r+xs.length)),(g1.take r).app (hx.app (g1.drop _)),fun u hu=>?_,fun i u hu=>⟨?_,?_⟩⟩⟩
  · rcases List.mem_append.1 hu with hu | hu
    · exact g2 u (List.mem_of_mem_take hu)
    · rcases List.mem_append.1 hu with hu | hu
      · exact h1 u hu
      · exact g2 u (List.mem_of_mem_drop hu)
  · by_cases hi:i<r
    · rw [e3 i (.inl hi)]
      rw [List.getElem?_append_left (by simp;omega),List.getElem?_take_of_lt hi] at hu
      exact (g3 i u hu).1
    · rw [List.getElem?_append_right (by simp;omega)] at hu
      simp only [List.length_take,show min r us.length=r by omega] at hu
      by_cases hi2:i - r<vs.length
      · rw [List.getElem?_append_left hi2] at hu
        have:=e5 (fun j hj=>⟨_,(hcell j hj).choose_spec.1⟩) (i - r) u hu
        rwa [show r+(i - r)=i by omega] at this
      · rw [List.getElem?_append_right (by omega),List.getElem?_drop] at hu
        rw [e3 i (.inr (by omega))]
        rw [show r+xs.length+(i - r - vs.length)=i by omega] at hu
        exact (g3 i u hu).1
  · rw [e4 i]
    have hi:i<us.length:=by
      have:=(List.getElem?_eq_some_iff.1 hu).1
      simp at this;omega
    exact (g3 i us[i] (by simp [hi])).2
theorem splice_one {l:List AV} {r:Nat} {x:AV} (h:r<l.length):splice l r [x]=l.set r x:=by
  unfold splice
  simp only [List.length_singleton,List.singleton_append]
  rw [List.set_eq_take_append_cons_drop]
  simp [h]
theorem snd_store {T:TypeId} {p x:Operand} (ht:TabOK ty) (h:RelG X G s a w) (ho:o.op=.store T p x) (hs:sStore ty X.N s o.dst T p x K):Snd o X a w K:=by
  have hp:=h.ev p
  have hx:=h.ev x
  unfold sStore at hs
  split at hs
  · rename_i i hd hi
    have hT:=ht T i hi
    split at hs
    · rename_i q r hl
      rw [hl] at hp
      simp only [CV] at hp
      split at hs
      · rename_i l hob
        unfold sStoreO at hs
        split at hs
        · rename_i hag
          split at hs
          · rename_i m hm
            obtain ⟨h1,h2,h3,hs⟩:=hs
            rw [hm] at hx
            obtain ⟨us,g1,g2⟩:=cvAgg.1 hx
            have g3:=CXs.leaves h2 g1
            have hus:=g3.len
            obtain ⟨e1,e2,e3⟩:=h.stored hob (CXk1.cvs g3 h2) (CXs.one _ _ g1) (r:=r) (by simp;omega)
            have hsz:us.length=i.size:=by omega
            refine snd_unit e3 ?_ hd hs
            have hr:=run_storeVar hT (w:=w) (b:=G.ad q) (o:=r) (v:=.agg us.toArray) (by simpa [Value.cells] using hsz) (by simpa [Value.cells] using CXs.one _ _ g1) (by rw [← hsz];exact e1) (by rw [← hsz];exact e2)
            simp only [execOp,ho,Instr.storeAt,hp,Instr.sureAddr,Sem.run_bind,Sem.run_pure,Result.andThen_ok,g2,hr]
            simp [Value.cells]
          · rename_i m hm
            obtain ⟨h1,h3,hs⟩:=hs
            rw [hm] at hx
            obtain ⟨us,g2,g1,g3⟩:=hx
            have hus:=g3.len
            obtain ⟨e1,e2,e3⟩:=h.stored hob g3 g1 (r:=r) (by omega)
            have hsz:us.length=i.size:=by omega
            refine snd_unit e3 ?_ hd hs
            have hr:=run_storeVar hT (w:=w) (b:=G.ad q) (o:=r) (v:=.agg us.toArray) (by simpa [Value.cells] using hsz) (by simpa [Value.cells] using g1) (by rw [← hsz];exact e1) (by rw [← hsz];exact e2)
            simp only [execOp,ho,Instr.storeAt,hp,Instr.sureAddr,Sem.run_bind,Sem.run_pure,Result.andThen_ok,g2,hr]
            simp [Value.cells]
          · exact hs.elim
        · rename_i hag
          obtain ⟨h1,h2,hs⟩:=hs
          obtain ⟨g1,g2⟩:=isCell_ok h1 hx
          obtain ⟨e1,e2,e3⟩:=h.stored hob (xs:=[ev X.N s x]) (vs:=[a.eval x]) ⟨_,_,rfl,hx,rfl⟩ (by simpa using g1) (r:=r) (by simp;omega)
          rw [splice_one h2] at e3
          have hsz:=(hT.flat hag).1
          refine snd_unit e3 ?_ hd hs
          have hr:=run_storeVar hT (w:=w) (b:=G.ad q) (o:=r) (v:=a.eval x) (by rw [g2,hsz];rfl) (by rw [g2];simpa using g1) (by rw [hsz];simpa using e1) (by rw [hsz];simpa using e2)
          simp only [execOp,ho,Instr.storeAt,hp,Instr.sureAddr,Sem.run_bind,Sem.run_pure,Result.andThen_ok,hr,g2]
      · exact hs.elim
    · exact hs.elim
  · exact hs.elim
theorem RelG.newOb {d:Nat} {T:TypeId} {l:List AV} {us:List Value} (h:RelG X G s a w) (hd:d<1000000) (hl:CVs G w l us) (h1:∀ u∈us,u.oneCell'=true) :
    RelG X { G with ad:=fun o=>if o=d then w.heap.size else G.ad o } ((s.scr (fun _=>true) (fun o=>!(o == d))).setOb d (some (scrubs (fun _=>true) (fun o=>!(o == d)) l))) a (w.alloc (.cells us.toArray T)):=by
  have hsz:(w.alloc (.cells us.toArray T)).heap.size=w.heap.size+1:=by simp
  have hblk:∀ b,b<w.heap.size→(w.alloc (.cells us.toArray T)).heap[b]? = w.heap[b]?:=fun b hb=>Below.heap_alloc _ _ _ hb
  have hle:GLe (fun _=>true) (fun o=>!(o == d)) G { G with ad:=fun o=>if o=d then w.heap.size else G.ad o } w (w.alloc (.cells us.toArray T)) :=
    ⟨fun b i hc=>⟨hc,World.cell?_of_block (w:=w) (hblk b (h.cs b i hc))⟩,fun _ _=>⟨rfl,rfl,rfl⟩,fun o ho=>by simp at ho;simp [ho]⟩
  have hg:w.grownBy (w.alloc (.cells us.toArray T)) none:=World.grownBy_alloc w _ _
  have hobd:∀ o,((s.scr (fun _=>true) (fun o=>!(o == d))).setOb d (some (scrubs (fun _=>true) (fun o=>!(o == d)) l))).ob o ≠ none→o=d∨o ≠ d∧s.ob o ≠ none:=fun o ho=>by
    by_cases e:o=d
    · exact .inl e
    · refine .inr ⟨e,fun e2=>ho ?_⟩
      simp [AS.setOb,AS.scr,e,e2]
  have hbuf:∀ g k,(G.hd g).ownBlock=some k→k<w.heap.size:=fun g k hk=>by
    obtain ⟨a0,n0,c0,vs,e1,e2,e3⟩:=h.bf g
    exact (e2.1.lt k (by rw [← e1];exact hk)).2
  refine ⟨⟨h.fr.os,h.fr.tape,h.fr.output,by rw [hsz];have:=h.fr.size;omega,fun k hk hL=>(hblk k (Nat.lt_of_lt_of_le hk h.fr.size)).trans (h.fr.block k hk hL)⟩,h.df,h.n,fun t ht=>CV.scrub hle _ _ (h.tm t ht),fun g=>?_,fun o l2 ho=>?_,fun b i hc=>by rw [hsz];have:=h.cs b i hc;omega,h.d1,fun o o' h1 h2 e=>?_,fun o g h1=>?_,fun o h1=>?_,h.lc,h.nl,fun i h1=>?_,h.c0,fun b i hc hz=>by rw [World.frozen?_of_block (w:=w) (hblk b (h.cs b i hc))];exact h.uf b i hc hz⟩
  · obtain ⟨a0,n0,c0,vs,e1,e2,e3⟩:=h.bf g
    exact ⟨a0,n0,c0,vs,e1,e2.alloc _,e3⟩
  · simp only [AS.setOb] at ho
    split at ho
    · rename_i e
      subst e
      cases ho
      refine ⟨by simp,fun i hc=>by have:=h.cs _ _ hc;simp at this,us,CVs.scrub hle _ _ hl,h1,fun i u hu=>?_⟩
      have hu':us.toArray[i]? = some u:=by simpa using hu
      have hn:=heap_alloc_new w (Obj.cells us.toArray T)
      simp only [↓reduceIte]
      refine ⟨?_,?_⟩
      · simp only [World.cell?,hn];simpa using hu'
      · simp only [World.frozen?,hn];simp
    · rename_i e
      simp only [AS.scr] at ho
      cases hob:s.ob o with
      | none=>rw [hob] at ho;cases ho
      | some l3 =>
        rw [hob] at ho
        cases ho
        obtain ⟨g1,g2,us3,g3,g4,g5⟩:=h.ob o l3 hob
        simp only [ObOK,if_neg e]
        refine ⟨by rw [hsz];omega,g2,us3,by rw [← scrubs_map];exact CVs.scrub hle _ _ g3,g4,fun i u hu=>?_⟩
        rw [World.cell?_of_block (w:=w) (hblk _ g1),World.frozen?_of_block (w:=w) (hblk _ g1)]
        exact g5 i u hu
  · have hlt:∀ o2,s.ob o2 ≠ none→G.ad o2<w.heap.size:=fun o2 h3=>by
      cases hob:s.ob o2 with
      | none=>exact absurd hob h3
      | some l3=>exact (h.ob o2 l3 hob).1
    rcases hobd o h1 with rfl | ⟨e1,h3⟩
    · rcases hobd o' h2 with rfl | ⟨e2,h4⟩
      · rfl
      · have:=hlt o' h4
        simp only [if_true,if_neg e2] at e;omega
    · rcases hobd o' h2 with rfl | ⟨e2,h4⟩
      · have:=hlt o h3
        simp only [if_true,if_neg e1] at e;omega
      · simp only [if_neg e1,if_neg e2] at e;exact h.d2 o o' h3 h4 e
  · rcases hobd o h1 with rfl | ⟨e1,h3⟩
    · intro e
      have:=hbuf g _ e
      simp at this
    · simp only [if_neg e1];exact h.d3 o g h3
  · rcases hobd o h1 with rfl | ⟨e1,h3⟩
    · have hz:X.w0.heap.size≤w.heap.size:=h.fr.size
      exact ⟨fun _=>by simpa using hz,.inl (by simpa using hz)⟩
    · simp only [if_neg e1];exact h.ow o h3
  · rcases hobd _ h1 with e | ⟨e1,h3⟩
    · omega
    · simp only [if_neg e1];exact h.ln i h3
end
theorem foldl_row (off:Nat):∀ (l:List Value) (k:Nat) (cells:Array Value),off+k+l.length≤cells.size →
    ((l.zipIdx k).foldl (fun cs (p:Value×Nat)=>cs.setIfInBounds (off+p.2) p.1) cells).toList=cells.toList.take (off+k) ++ (l ++ cells.toList.drop (off+k+l.length))
  | [],k,cells,h=>by simp
  | v :: l,k,cells,h=>by
    simp only [List.length_cons] at h
    have ih:=foldl_row off l (k+1) (cells.setIfInBounds (off+k) v) (by simp;omega)
    simp only [List.zipIdx_cons,List.foldl_cons]
    rw [ih]
    have hk:off+k<cells.toList.length:=by simp;omega
    simp only [Array.toList_setIfInBounds]
    rw [show off+(k+1)=off+k+1 by omega,List.take_succ_eq_append_getElem (by simpa using hk)]
    rw [List.take_set_of_le (by omega),List.drop_set_of_lt (by omega)]
    simp only [List.getElem_set_self,List.append_assoc,List.singleton_append,List.cons_append,List.nil_append,List.length_cons]
    rw [show off+k+1+l.length=off+k+(l.length+1) by omega]
section
variable {X:Cx} {G:Gh} {s:AS} {a:Act} {w:World} {K:AS→Prop} {o:Oper} {ty:TypeId→Option TyI}
theorem zero_cvs:∀ {l:List AV} {us:List Value},ZeroOK l us→CVs G w l us∧∀ u∈us,u.oneCell'=true
  | [],us,h=>by obtain rfl:=h;exact ⟨rfl,fun u hu=>(by cases hu)⟩
  | x :: l,us,h=>by
    obtain ⟨u,v,rfl,h1,h2,h3⟩:=h
    obtain ⟨g1,g2⟩:=zero_cvs h3
    exact ⟨⟨u,v,rfl,h1.1 G w,g1⟩,fun y hy=>by rcases List.mem_cons.1 hy with rfl | hy;exact h2;exact g2 y hy⟩
theorem snd_valw {s':AS} {G':Gh} {w':World} {x:AV} {v:Value} (h:RelG X G' s' a w') (hr:(execOp a.eval o).run Try.prog w=.ok (.value v) w') (hv:CV G' w' x v) (hK:K (s'.putD o.dst x)):Snd o X a w K:=by
  intro nx Q hn
  unfold Oper.wp
  rw [hr]
  exact hn _ _ _ hK ⟨G',h.putD o.dst hv⟩
def AS.newO (s:AS) (d:Nat) (l:List AV):AS:=((s.scr (fun _=>true) (fun o=>!(o == d))).setOb d (some (scrubs (fun _=>true) (fun o=>!(o == d)) l))).put d (.ptr d 0)
def sAlloc (ty:TypeId→Option TyI) (s:AS) (dst:Option Nat) (T:TypeId) (K:AS→Prop):Prop:=match dst,ty T with
  | some d,some i=>d<1000000∧K (s.newO d i.zero)
  | _,_=>False
theorem snd_alloc {T:TypeId} (ht:TabOK ty) (h:RelG X G s a w) (ho:o.op=.alloc T) (hs:sAlloc ty s o.dst T K):Snd o X a w K:=by
  unfold sAlloc at hs
  split at hs
  · rename_i d i hd hi
    obtain ⟨hlt,hs⟩:=hs
    obtain ⟨f,z,h1,h2,h3,h4,h5,h6⟩:=(ht T i hi).info
    obtain ⟨g1,g2⟩:=zero_cvs (G:=G) (w:=w) h5
    refine snd_valw (x:=.ptr d 0) (v:=.pointer (some ⟨w.heap.size,0,none⟩)) (h.newOb (d:=d) (T:=T) hlt g1 g2) ?_ (by simp [CV]) (by rw [hd];exact hs)
    simp [execOp,ho,Instr.alloc,zeroValue,run_typeInfo h1,h3,newVar,newRow]
  · exact hs.elim
def zeroRow (l:List AV) (n:Nat):List AV:=(List.range (n*l.length)).map fun j=>l.getD (j % l.length) .junk
theorem zeroRow1 (z:AV) (n:Nat):zeroRow [z] n=List.replicate n z:=by
  unfold zeroRow
  apply List.ext_getElem
  · simp
  · intro j h1 h2
    simp [Nat.mod_one]
theorem ZeroOK.len:∀ {l:List AV} {us:List Value},ZeroOK l us→us.length=l.length
  | [],_,h=>by obtain rfl:=h;rfl
  | x :: l,_,h=>by obtain ⟨u,v,rfl,_,_,h3⟩:=h;simp [ZeroOK.len h3]
theorem zeroRow_ok {l:List AV} {z:Array Value} (h:ZeroOK l z.toList) (n:Nat):CVs G w (zeroRow l n) ((List.range (n*z.size)).map fun j=>z[j % z.size]!)∧∀ u∈(List.range (n*z.size)).map (fun j=>z[j % z.size]!),u.oneCell'=true:=by
  obtain ⟨g1,g2⟩:=zero_cvs (G:=G) (w:=w) h
  have hlen:z.size=l.length:=by simpa using h.len
  have hat:∀ j,0<l.length→z[j % z.size]!∈z.toList:=fun j hp=>by
    have hlt:j % z.size<z.size:=Nat.mod_lt _ (by omega)
    rw [getElem!_pos z _ hlt]
    exact Array.mem_toList_iff.2 (Array.getElem_mem hlt)
  refine ⟨CVs.mk (by simp [zeroRow,hlen]) fun j x v hx hv=>?_,fun u hu=>?_⟩
  · simp only [zeroRow,List.getElem?_map] at hx hv
    have hj:j<n*l.length:=by
      rcases Nat.lt_or_ge j (n*l.length) with h | h
      · exact h
      · rw [List.getElem?_eq_none (by simpa using h)] at hx;cases hx
    have hp:0<l.length:=by
      rcases Nat.eq_zero_or_pos l.length with e | e
      · rw [e] at hj;omega
      · exact e
    rw [List.getElem?_range hj] at hx
    rw [List.getElem?_range (by rw [hlen];exact hj)] at hv
    simp only [Option.map_some,Option.some.injEq] at hx hv
    have hlt:j % l.length<l.length:=Nat.mod_lt _ hp
    obtain ⟨v',e1,e2⟩:=g1.at (j % l.length) (l.getD (j % l.length) .junk) (by simp [List.getD,hlt])
    rw [← hx,← hv]
    have:z[j % z.size]! = v':=by
      rw [hlen,getElem!_pos z _ (by rw [hlen];exact hlt)]
      rw [Array.getElem?_toList,Array.getElem?_eq_getElem (by rw [hlen];exact hlt)] at e1
      exact Option.some.inj e1
    rw [this];exact e2
  · obtain ⟨j,hj,rfl⟩:=List.mem_map.1 hu
    have hj':=List.mem_range.1 hj
    refine g2 _ (hat j ?_)
    rcases Nat.eq_zero_or_pos l.length with e | e
    · rw [hlen,e] at hj';omega
    · exact e
def AS.newA (s:AS) (d:Nat) (l:List AV) (x:AV):AS:=((s.scr (fun _=>true) (fun o=>!(o == d))).setOb d (some (scrubs (fun _=>true) (fun o=>!(o == d)) l))).put d x
def sMakeSlice (ty:TypeId→Option TyI) (N:Nat) (s:AS) (dst:Option Nat) (T:TypeId) (l c:Operand) (K:AS→Prop):Prop:=match dst,(ty T).bind (·.kd),ev N s l,ev N s c with
  | some d,some (.slice e),.d (.int n),.d (.int m)=>match ty e with
    | some i=>d<1000000∧n=m∧0≤n∧n≤16777216∧K (s.newA d (zeroRow i.zero n.toNat) (.arr d i.size n.toNat))
    | none=>False
  | _,_,_,_=>False
theorem snd_makeSlice {T:TypeId} {l c:Operand} (ht:TabOK ty) (h:RelG X G s a w) (ho:o.op=.makeSlice T l c) (hs:sMakeSlice ty X.N s o.dst T l c K):Snd o X a w K:=by
  unfold sMakeSlice at hs
  split at hs
  · rename_i d e n m hd hk hn hm
    split at hs
    · rename_i i hi
      obtain ⟨hlt,rfl,h0,h1,hs⟩:=hs
      have hkd:Try.prog.underlying T=some (.slice e):=by
        cases e2:ty T with
        | none=>rw [e2] at hk;cases hk
        | some j=>rw [e2] at hk;exact (ht T j e2).kd _ hk
      obtain ⟨f,z,f1,f2,f3,f4,f5,f6⟩:=(ht e i hi).info
      have en:=h.ev l;rw [hn] at en
      have em:=h.ev c;rw [hm] at em
      have en':=(cvInt.1 en).1
      have em':=(cvInt.1 em).1
      obtain ⟨g1,g2⟩:=zeroRow_ok (G:=G) (w:=w) f5 n.toNat
      refine snd_valw (x:=.arr d i.size n.toNat) (v:=.slice (some ⟨w.heap.size,0,none⟩) n.toNat n.toNat) (h.newOb (d:=d) (T:=e) hlt g1 g2) ?_ ⟨n.toNat,by simp,Nat.le_refl _,by simp only [maxLen];omega⟩ (by rw [hd];exact hs)
      have wl:IntKind.i64.wrap n=n:=by rw [IntKind.wrap_i64];omega
      have hb2:(f.bytes:Int)*n≤4096*16777216:=by
        have b1:(f.bytes:Int)≤4096:=by omega
        calc (f.bytes:Int)*n≤4096*n:=Int.mul_le_mul_of_nonneg_right b1 h0
          _≤4096*16777216:=Int.mul_le_mul_of_nonneg_left h1 (by omega)
      have n1:¬ n<0:=by omega
      have n2:¬ (281474976710656<(f.bytes:Int)*n):=by omega
      have hb3:n.toNat*f.bytes≤16777216*4096:=Nat.mul_le_mul (by omega) f4
      have n5:¬ (140737488355328<n.toNat*f.bytes):=by omega
      by_cases hz:n.toNat*f.size=0
      · have hz2:n.toNat*z.cells.size=0:=by rw [f6,← f2];exact hz
        simp [execOp,ho,en',em',Instr.makeSlice,run_underlying hkd,asInt,asIntOf,typeInfo,f1,sizeOf,wl,n1,n2,n5,hz,newRow,askRoom,roomBytes,typeInfo]
        rw [hz2,show Array.range 0 = #[] from Array.toList_inj.1 (by rw [Array.toList_range];rfl)];simp
      · simp [execOp,ho,en',em',Instr.makeSlice,run_underlying hkd,asInt,asIntOf,typeInfo,f1,sizeOf,zeroValue,f3,wl,n1,n2,n5,hz,newRow,askRoom,roomBytes]
        congr 2
        apply Array.toList_inj.1
        rw [f6,← f2]
        simp [Array.toList_range]
    · exact hs.elim
  · exact hs.elim
def avCells:AV→List AV
  | .d (.agg m)=>m.map .d
  | x=>[x]
def cellsOK:AV→Bool
  | .d (.agg m)=>leaves m
  | x=>isCell x
theorem avCells_ok {x:AV} {v:Value} (hx:cellsOK x=true) (hv:CV G w x v):CVs G w (avCells x) v.cells.toList∧∀ u∈v.cells.toList,u.oneCell'=true:=by
  have key:isCell x=true→avCells x=[x]→CVs G w (avCells x) v.cells.toList∧∀ u∈v.cells.toList,u.oneCell'=true:=fun h1 h2=>by
    obtain ⟨g1,g2⟩:=isCell_ok h1 hv
    rw [h2,g2]
    exact ⟨⟨v,[],rfl,hv,rfl⟩,by simpa using g1⟩
  cases x with
  | d y =>
    cases y with
    | agg m =>
      obtain ⟨us,g1,rfl⟩:=cvAgg.1 hv
      simp only [Value.cells]
      exact ⟨CXk1.cvs (CXs.leaves hx g1) hx,CXs.one _ _ g1⟩
    | _=>exact key rfl rfl
  | _=>first | exact key rfl rfl | cases hx
def sNil (N:Nat) (s:AS) (dst:Option Nat) (x:Operand) (K:AS→Prop):Prop:=match ev N s x with
  | .loc l=>K (s.putD dst (.loc l))
  | .ptr q r=>K (s.putD dst (.ptr q r))
  | _=>False
theorem snd_nil {x:Operand} (h:RelG X G s a w) (ho:o.op=.nilCheck x) (hs:sNil X.N s o.dst x K):Snd o X a w K:=by
  have hv:=h.ev x
  unfold sNil at hs
  split at hs
  · rename_i l hl
    rw [hl] at hv
    obtain ⟨b,q,us,e,g1,g2⟩:=hv
    exact snd_val h (by simp [execOp,ho,e]) (x:=.loc l) ⟨b,q,us,rfl,g1,g2⟩ hs
  · rename_i q r hl
    rw [hl] at hv
    simp only [CV] at hv
    exact snd_val h (by simp [execOp,ho,hv]) (x:=.ptr q r) rfl hs
  · exact hs.elim
def sCvt (ty:TypeId→Option TyI) (N:Nat) (s:AS) (dst:Option Nat) (S T:TypeId) (x:Operand) (K:AS→Prop):Prop:=match (ty S).bind (·.kd),(ty T).bind (·.kd),ev N s x with
  | some (.int _),some (.int .i64),.d (.byte n)=>K (s.putD dst (.d (.int n)))
  | some (.int _),some (.int .i64),.d (.int n)=>K (s.putD dst (.d (.int n)))
  | some (.int _),some (.int .u8),.d (.int n)=>K (s.putD dst (.d (.byte (IntKind.u8.wrap n))))
  | some (.int _),some (.int .u8),.d (.byte n)=>K (s.putD dst (.d (.byte n)))
  | _,_,_=>False
theorem i64_wrap_id {n:Int} (h:I64 n):IntKind.i64.wrap n=n:=by
  rw [IntKind.wrap_i64];unfold I64 at h;omega
theorem u8_wrap (n:Int):IntKind.u8.wrap n=n % 256:=by
  simp [IntKind.wrap,IntKind.bits,IntKind.signed]
theorem snd_cvt {S T:TypeId} {x:Operand} (ht:TabOK ty) (h:RelG X G s a w) (ho:o.op=.convert S T x) (hs:sCvt ty X.N s o.dst S T x K):Snd o X a w K:=by
  have hv:=h.ev x
  unfold sCvt at hs
  split at hs
  · rename_i k n h1 h2 h3
    rw [h3] at hv
    obtain ⟨e,hr⟩:=cvByte.1 hv
    have u1:=ht.kd h1
    have u2:=ht.kd h2
    have hw:IntKind.i64.wrap n=n:=i64_wrap_id (by unfold I64;omega)
    exact snd_val h (by simp [execOp,ho,e,convert,run_underlying u1,run_underlying u2,Conv.intToInt,hw]) (cvInt.2 ⟨rfl,by unfold I64;omega⟩) hs
  · rename_i k n h1 h2 h3
    rw [h3] at hv
    obtain ⟨e,hr⟩:=cvInt.1 hv
    have u1:=ht.kd h1
    have u2:=ht.kd h2
    have hw:IntKind.i64.wrap n=n:=i64_wrap_id hr
    exact snd_val h (by simp [execOp,ho,e,convert,run_underlying u1,run_underlying u2,Conv.intToInt,hw]) (cvInt.2 ⟨rfl,hr⟩) hs
  · rename_i k n h1 h2 h3
    rw [h3] at hv
    obtain ⟨e,hr⟩:=cvInt.1 hv
    have u1:=ht.kd h1
    have u2:=ht.kd h2
    exact snd_val h (by simp [execOp,ho,e,convert,run_underlying u1,run_underlying u2,Conv.intToInt]) (cvByte.2 ⟨rfl,by rw [u8_wrap];omega⟩) hs
  · rename_i k n h1 h2 h3
    rw [h3] at hv
    obtain ⟨e,hr⟩:=cvByte.1 hv
    have u1:=ht.kd h1
    have u2:=ht.kd h2
    have hw:IntKind.u8.wrap n=n:=by rw [u8_wrap];omega
    exact snd_val h (by simp [execOp,ho,e,convert,run_underlying u1,run_underlying u2,Conv.intToInt,hw]) (cvByte.2 ⟨rfl,hr⟩) hs
  · exact hs.elim
def bldC (pl:List (Nat×Nat)):List AV→List (Nat×AV)→Option (List AV)
  | l,[]=>some l
  | l,(f,x) :: r=>match pl[f]? with
    | some (off,n)=>if cellsOK x=true∧(avCells x).length=n∧off+n≤l.length then bldC pl (splice l off (avCells x)) r else none
    | none=>none
theorem bldC_ok {pl:List (Nat×Nat)}:∀ (ps:List (Nat×AV)) (vs:List Value) (l m:List AV) (cells:Array Value),bldC pl l ps=some m→CVs G w (ps.map (·.2)) vs→CVs G w l cells.toList→(∀ u∈cells.toList,u.oneCell'=true) →
    ∃ r,Instr.fill (pl.toArray[·]?) cells ((ps.map (·.1)).zip vs)=some r∧CVs G w m r.toList∧∀ u∈r.toList,u.oneCell'=true
  | [],vs,l,m,cells,h,hv,hc,h1=>by
    obtain rfl:=hv
    cases h
    exact ⟨cells,rfl,hc,h1⟩
  | (f,x) :: ps,vs,l,m,cells,h,hv,hc,h1=>by
    obtain ⟨v,us,rfl,g1,g2⟩:=hv
    simp only [bldC] at h
    split at h
    · rename_i off n hp
      split at h
      · rename_i hcond
        obtain ⟨c1,c2,c3⟩:=hcond
        obtain ⟨a1,a2⟩:=avCells_ok c1 g1
        have l1:=a1.len
        have l2:=hc.len
        have hsz:v.cells.size=n:=by rw [← c2,← l1];simp
        have hcs:cells.size=l.length:=by rw [← l2];simp
        have hf:=foldl_row off v.cells.toList 0 cells (by simp [hsz,hcs];omega)
        have hA:(v.cells.zipIdx.foldl (fun cs (p:Value×Nat)=>cs.setIfInBounds (off+p.2) p.1) cells).toList=cells.toList.take off ++ (v.cells.toList ++ cells.toList.drop (off+n)):=by
          rw [← Array.foldl_toList]
          simpa [hsz] using hf
        have hC:CVs G w (splice l off (avCells x)) (v.cells.zipIdx.foldl (fun cs (p:Value×Nat)=>cs.setIfInBounds (off+p.2) p.1) cells).toList:=by
          rw [hA]
          unfold splice
          rw [c2]
          exact CVs.app (CVs.take off hc) (CVs.app a1 (CVs.drop _ hc))
        have hO:∀ u∈(v.cells.zipIdx.foldl (fun cs (p:Value×Nat)=>cs.setIfInBounds (off+p.2) p.1) cells).toList,u.oneCell'=true:=by
          rw [hA]
          intro u hu
          rcases List.mem_append.1 hu with hu | hu
          · exact h1 u (List.mem_of_mem_take hu)
          · rcases List.mem_append.1 hu with hu | hu
            · exact a2 u hu
            · exact h1 u (List.mem_of_mem_drop hu)
        obtain ⟨r,r1,r2,r3⟩:=bldC_ok ps us _ m _ h g2 hC hO
        refine ⟨r,?_,r2,r3⟩
        simp only [List.map_cons,List.zip_cons_cons,Instr.fill]
        have hp2:pl.toArray[f]? = some (off,n):=by simpa using hp
        rw [hp2]
        have hcc:¬ ((v.cells.size ≠ n || decide (off+v.cells.size > cells.size))=true):=by
          simp only [hsz,ne_eq,not_true_eq_false,decide_false,Bool.false_or,decide_eq_true_eq];omega
        simp only
        rw [if_neg hcc]
        exact r1
      · cases h
    · cases h
def bldD (b:Bool):Option (List AV)→Option DV
  | some m=>(toDVs b m).map .agg
  | none=>none
def bldS (wh st:Bool):Option (List AV)→Option AV
  | some m=>ldM wh st m
  | none=>none
def bldR (K:AS→Prop) (s:AS) (dst:Option Nat):Option AV→Prop
  | some x=>K (s.putD dst x)
  | none=>False
def prts (N:Nat) (s:AS):List (Nat×Operand)→List (Nat×AV)
  | []=>[]
  | p :: l=>(p.1,ev N s p.2) :: prts N s l
def bldK (K:AS→Prop) (s:AS) (dst:Option Nat) (ps:List (Nat×AV)):Option TyI→Prop
  | some i=>i.agg=true∧bldR K s dst (bldS i.wh i.st (bldC i.pl i.zero ps))
  | none=>False
def sBuild (ty:TypeId→Option TyI) (N:Nat) (s:AS) (dst:Option Nat) (T:TypeId) (parts:List (Nat×Operand)) (K:AS→Prop):Prop:=bldK K s dst (prts N s parts) (ty T)
theorem prts_eq (N:Nat) (s:AS) (l:List (Nat×Operand)):prts N s l=l.map fun p=>(p.1,ev N s p.2):=by
  induction l with
  | nil=>rfl
  | cons p l ih=>simp only [prts,List.map_cons,ih]
theorem snd_build {T:TypeId} {parts:Array (Nat×Operand)} (ht:TabOK ty) (h:RelG X G s a w) (ho:o.op=.build T parts) (hs:sBuild ty X.N s o.dst T parts.toList K):Snd o X a w K:=by
  unfold sBuild at hs
  rw [prts_eq] at hs
  cases hi:ty T with
  | none=>rw [hi] at hs;exact hs.elim
  | some i =>
    rw [hi] at hs
    obtain ⟨hag,hs⟩:=hs
    cases hm:bldC i.pl i.zero (parts.toList.map fun p=>(p.1,ev X.N s p.2)) with
    | none=>rw [hm] at hs;exact hs.elim
    | some m =>
      cases hx:ldM i.wh i.st m with
      | none=>rw [hm] at hs;simp only [bldS,hx] at hs;exact hs.elim
      | some x =>
        rw [hm] at hs
        simp only [bldS,hx,bldR] at hs
        obtain ⟨fs,hu,hpl⟩:=(ht T i hi).pl hag
        obtain ⟨f,z,f1,f2,f3,f4,f5,f6⟩:=(ht T i hi).info
        have hz:=zero_cvs (G:=G) (w:=w) f5
        have hvs:=h.evs (parts.toList.map (·.2))
        have hmap:(parts.toList.map fun p=>(p.1,ev X.N s p.2)).map (·.2)=evs X.N s (parts.toList.map (·.2)):=by
          induction parts.toList with
          | nil=>rfl
          | cons p l ih=>simp only [List.map_cons,evs] at ih ⊢;rw [← ih]
        obtain ⟨r,r1,r2,r3⟩:=bldC_ok _ _ _ _ z.cells hm (by rw [hmap];exact hvs) hz.1 hz.2
        have hzip:((parts.toList.map fun p=>(p.1,ev X.N s p.2)).map (·.1)).zip ((parts.toList.map (·.2)).map a.eval)=parts.toList.map fun p=>(p.1,a.eval p.2):=by
          induction parts.toList with
          | nil=>rfl
          | cons p l ih=>simp only [List.map_cons,List.zip_cons_cons] at ih ⊢;rw [ih]
        rw [hzip] at r1
        have hb:Try.prog.built T (parts.map fun (i,x)=>(i,a.eval x)).toList=some r:=by
          unfold Program.built
          rw [f1,hu]
          simp only [f3,hpl]
          rw [← r1]
          congr 1
          simp
        refine snd_val h (v:=.agg r) (by simp [execOp,ho,run_build w T _ r hb]) ?_ hs
        rcases ldM_cases hx with rfl | ⟨y,hy,rfl⟩
        · exact ⟨r.toList,by simp,r3,r2⟩
        · obtain ⟨t1,t2⟩:=toDVs_ok hy r2 r3
          exact cvAgg.2 ⟨r.toList,CXs_of_k1 t1,by simp⟩
def sBox (N:Nat) (s:AS) (dst:Option Nat) (x:Operand) (K:AS→Prop):Prop:=match dst with
  | some d=>d<1000000∧cellsOK (ev N s x)=true∧K (s.newO d (avCells (ev N s x)))
  | none=>False
theorem snd_box {T:TypeId} {x:Operand} (h:RelG X G s a w) (ho:o.op=.box T x) (hs:sBox X.N s o.dst x K):Snd o X a w K:=by
  unfold sBox at hs
  split at hs
  · rename_i d hd
    obtain ⟨hlt,h1,hs⟩:=hs
    obtain ⟨g1,g2⟩:=avCells_ok h1 (h.ev x)
    refine snd_valw (x:=.ptr d 0) (v:=.pointer (some ⟨w.heap.size,0,none⟩)) (h.newOb (d:=d) (T:=T) hlt g1 g2) ?_ (by simp [CV]) (by rw [hd];exact hs)
    simp [execOp,ho,Instr.box,newVar,newRow]
  · exact hs.elim
theorem RelG.setBuf {w':World} {g:Nat} {T:TypeId} {k:Nat} {ad:Option Addr} {n c:Nat} {vs:List Value} (h:RelG X G s a w) (hg:w.grownBy w' (G.hd g).ownBlock)
    (hcell:∀ b i,(G.hd g).ownBlock=some b→G.C b i→w'.cell? ⟨b,i,none⟩=w.cell? ⟨b,i,none⟩)
    (hfz:∀ b i,(G.hd g).ownBlock=some b→G.C b i→w'.frozen? ⟨b,i,none⟩=false)
    (hnew:OwnF T k X.w0.heap.size w' ad n c vs) (hblk:∀ b,ad=some ⟨b,0,none⟩→w.heap.size≤b∨(G.hd g).ownBlock=some b∧∀ i,(G.C b i→i<n*k∨c*k≤i))
    (P:Nat→Nat→Prop) (hP:∀ b i,P b i→ad=some ⟨b,0,none⟩∧(i<n*k∨c*k≤i)) (hPt:∀ b i,ad=some ⟨b,0,none⟩→c*k≤i→P b i) :
    RelG X { G with C:=fun b i=>G.C b i∨P b i,hd:=fun g'=>if g'=g then .slice ad n c else G.hd g',hT:=fun g'=>if g'=g then T else G.hT g',hk:=fun g'=>if g'=g then k else G.hk g' } (s.scr (fun g'=>!(g' == g)) (fun _=>true)) a w':=by
  have hown:∀ b,(G.hd g).ownBlock=some b→X.w0.heap.size≤b∧b<w.heap.size:=fun b hb=>by
    obtain ⟨a0,n0,c0,vs0,e1,e2,e3⟩:=h.bf g
    exact e2.1.lt b (by rw [← e1];exact hb)
  have hold:∀ b,b<w.heap.size→(G.hd g).ownBlock ≠ some b→w'.heap[b]? = w.heap[b]?:=fun b hb hne=>hg.block b hb (fun e=>hne e.symm)
  have hCst:∀ b i,G.C b i→w'.cell? ⟨b,i,none⟩=w.cell? ⟨b,i,none⟩:=fun b i hc=>by
    by_cases e:(G.hd g).ownBlock=some b
    · exact hcell b i e hc
    · exact World.cell?_of_block (w:=w) (hold b (h.cs b i hc) e)
  have hle:GLe (fun g'=>!(g' == g)) (fun _=>true) G { G with C:=fun b i=>G.C b i∨P b i,hd:=fun g'=>if g'=g then .slice ad n c else G.hd g',hT:=fun g'=>if g'=g then T else G.hT g',hk:=fun g'=>if g'=g then k else G.hk g' } w w' :=
    ⟨fun b i hc=>⟨.inl hc,hCst b i hc⟩,fun g' hg'=>by simp at hg';simp [hg'],fun _ _=>rfl⟩
  have hadlt:∀ b,ad=some ⟨b,0,none⟩→b<w'.heap.size∧X.w0.heap.size≤b:=fun b hb=>by
    have:=hnew.1.lt b (by rw [hb];rfl)
    exact ⟨this.2,this.1⟩
  have hownB:∀ b,(Value.slice ad n c).ownBlock=some b→ad=some ⟨b,0,none⟩:=fun b hb=>by
    rcases hnew.1.2 with ⟨e,_⟩ | ⟨g0,cap,cur,e,_⟩
    · rw [e] at hb;cases hb
    · simp only [Value.slice.injEq] at e
      rw [e.1] at hb ⊢
      simp only [Value.ownBlock,Option.some.injEq] at hb
      rw [hb]
  have hobs:∀ q,((s.scr (fun g'=>!(g' == g)) (fun _=>true)).ob q ≠ none)→s.ob q ≠ none:=fun q hq e=>hq (by simp [AS.scr,e])
  have hoblt:∀ q,s.ob q ≠ none→G.ad q<w.heap.size:=fun q hq=>by
    cases e:s.ob q with
    | none=>exact absurd e hq
    | some l=>exact (h.ob q l e).1
  refine ⟨⟨hg.os.trans h.fr.os,hg.tape.trans h.fr.tape,hg.output.trans h.fr.output,Nat.le_trans h.fr.size hg.size,fun b hb hl=>?_⟩,h.df,h.n,fun t ht=>CV.scrub hle _ _ (h.tm t ht),fun g'=>?_,fun q l hq=>?_,fun b i hc=>?_,fun g1 g2 hne e=>?_,fun q q' h1 h2 e=>h.d2 q q' (hobs q h1) (hobs q' h2) e,fun q g' h1=>?_,fun q h1=>h.ow q (hobs q h1),fun b i hc hb=>?_,fun b i hc=>?_,fun i h1=>h.ln i (hobs _ h1),fun b i hc=>.inl (h.c0 b i hc),fun b i hc hz=>?_⟩
  · rw [hold b (Nat.lt_of_lt_of_le hb h.fr.size) (fun e=>by have:=hown b e;omega)]
    exact h.fr.block b hb hl
  · by_cases e:g'=g
    · subst e
      refine ⟨ad,n,c,vs,by simp,by simpa using hnew,fun b hb i=>⟨fun hc=>?_,fun hci=>.inr (hPt b i hb (by simpa using hci))⟩⟩
      simp only [if_true]
      rcases hc with hc | hc
      · rcases hblk b hb with h1 | h1
        · have:=h.cs b i hc;omega
        · exact h1.2 i hc
      · exact (hP b i hc).2
    · obtain ⟨a0,n0,c0,vs0,e1,e2,e3⟩:=h.bf g'
      refine ⟨a0,n0,c0,vs0,by simp [e,e1],?_,fun b hb i=>⟨fun hc=>?_,fun hci=>.inl ((e3 b hb i).2 (by simpa [e] using hci))⟩⟩
      · simp only [if_neg e]
        refine ⟨e2.1.kept hg ?_,e2.2⟩
        cases h3:(G.hd g').ownBlock with
        | none=>left;rw [← e1];exact h3
        | some b3 =>
          right
          rw [← e1,h3]
          intro e4
          have:=h.d1 g' g e (h3.trans e4)
          rw [h3] at this;cases this
      · simp only [if_neg e]
        rcases hc with hc | hc
        · exact (e3 b hb i).1 hc
        · exfalso
          have h1:=(hP b i hc).1
          have hb3:(G.hd g').ownBlock=some b:=by rw [e1,hb];rfl
          rcases hblk b h1 with h2 | h2
          · have:=(e2.1.lt b (by rw [← e1];exact hb3)).2;omega
          · have:=h.d1 g' g e (hb3.trans h2.1.symm)
            rw [hb3] at this;cases this
  · simp only [AS.scr] at hq
    cases hob:s.ob q with
    | none=>rw [hob] at hq;cases hq
    | some l2 =>
      rw [hob] at hq
      cases hq
      obtain ⟨g1,g2,us,g3,g4,g5⟩:=h.ob q l2 hob
      have hq0:s.ob q ≠ none:=by rw [hob];exact fun e=>(by cases e)
      have hne:(G.hd g).ownBlock ≠ some (G.ad q):=h.d3 q g hq0
      refine ⟨Nat.lt_of_lt_of_le g1 hg.size,fun i hc=>?_,us,by rw [← scrubs_map];exact CVs.scrub hle _ _ g3,g4,fun i u hu=>?_⟩
      · rcases hc with hc | hc
        · exact g2 i hc
        · rcases hblk _ (hP _ _ hc).1 with h2 | h2
          · simp only at h2;omega
          · exact hne h2.1
      · rw [World.cell?_of_block (w:=w) (hold _ g1 hne),World.frozen?_of_block (w:=w) (hold _ g1 hne)]
        exact g5 i u hu
  · rcases hc with hc | hc
    · exact Nat.lt_of_lt_of_le (h.cs b i hc) hg.size
    · exact (hadlt b (hP b i hc).1).1
  · by_cases e1:g1=g
    · by_cases e2:g2=g
      · exact absurd (e1.trans e2.symm) hne
      · simp only [e1,if_true,if_neg e2] at e ⊢
        cases h3:(Value.slice ad n c).ownBlock with
        | none=>rfl
        | some b =>
          exfalso
          rw [h3] at e
          obtain ⟨a0,n0,c0,vs0,q1,q2,q3⟩:=h.bf g2
          have hlt:=(q2.1.lt b (by rw [← q1];exact e.symm)).2
          rcases hblk b (hownB b h3) with h4 | h4
          · omega
          · have:=h.d1 g g2 (fun x=>e2 x.symm) (h4.1.trans e)
            rw [h4.1] at this;cases this
    · by_cases e2:g2=g
      · simp only [e2,if_true,if_neg e1] at e ⊢
        cases h3:(Value.slice ad n c).ownBlock with
        | none=>rw [h3] at e;exact e
        | some b =>
          exfalso
          rw [h3] at e
          obtain ⟨a0,n0,c0,vs0,q1,q2,q3⟩:=h.bf g1
          have hlt:=(q2.1.lt b (by rw [← q1];exact e)).2
          rcases hblk b (hownB b h3) with h4 | h4
          · omega
          · have:=h.d1 g1 g e1 (e.trans h4.1.symm)
            rw [e] at this;cases this
      · simp only [if_neg e1,if_neg e2] at e ⊢
        exact h.d1 g1 g2 hne e
  · have hq0:=hobs q h1
    by_cases e:g'=g
    · simp only [e,if_true]
      intro h3
      rcases hblk _ (hownB _ h3) with h4 | h4
      · have:=hoblt q hq0;omega
      · exact h.d3 q g hq0 h4.1
    · simp only [if_neg e];exact h.d3 q g' hq0
  · rcases hc with hc | hc
    · exact h.lc b i hc hb
    · have:=(hadlt b (hP b i hc).1).2;omega
  · rcases hc with hc | hc
    · exact h.nl b i hc
    · exact fun hl=>by have h1:=X.hL b hl;have h2:=(hadlt b (hP b i hc).1).2;omega
  · rcases hc with hc | hc
    · by_cases e:(G.hd g).ownBlock=some b
      · exact hfz b i e hc
      · rw [World.frozen?_of_block (w:=w) (hold b (h.cs b i hc) e)]
        exact h.uf b i hc hz
    · have e:=(hP b i hc).1
      subst e
      exact hnew.free i
end
end Go.Proofs.Ytpbclpopoodklaa
