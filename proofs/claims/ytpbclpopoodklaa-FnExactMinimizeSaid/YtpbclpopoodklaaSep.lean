/- Lemmas for the proof of FnExactMaximize, part 48 of 56: no condition of their own. -/
import Derived.Test.YtpbclpopoodklaaVals
import Derived.Test.YtpbclpopoodklaaMark
import Derived.Test.YtpbclpopoodklaaCell
namespace Go.Proofs.Ytpbclpopoodklaa
set_option linter.unusedSimpArgs false
set_option linter.unusedVariables false
open Go.RowKit
abbrev RowP (α:Type):=Nat→Nat→World→Option Addr→Nat→Nat→α→Prop
structure RowPOK {α:Type} (Q:RowP α):Prop where
  keep:∀ {lo hi w w' a n c x},Q lo hi w a n c x→Keeps lo hi w w'→Q lo hi w' a n c x
  wide:∀ {lo hi lo' hi' w a n c x},Q lo hi w a n c x→lo'≤lo→hi≤hi'→Q lo' hi' w a n c x
def HeadI (w:World) (s t:Nat):Prop:=s<t→t=s+1∧∃ z:Int,w.cell? ⟨s,0,none⟩=some (.int .i64 z)
theorem HeadI.keep {w w':World} {s t lo hi:Nat} (h:HeadI w s t) (hk:Keeps lo hi w w') (h1:lo≤s) (h2:t≤hi):HeadI w' s t:=fun hlt=>by
  obtain ⟨g1,z,g2⟩:=h hlt
  exact ⟨g1,z,by rw [World.cell?_of_block (w:=w) (hk s h1 (by omega))];exact g2⟩
def SepV {α:Type} (Q:RowP α) (lo hi:Nat) (w:World) (vs:List Value) (xss:List α):Prop :=
  vs.length=xss.length∧∃ s t:Nat→Nat,(∀ i,i<xss.length→lo≤s i∧t i≤hi∧HeadI w (s i) (t i)∧∃ ra rn rc x,xss[i]? = some x∧vs[i]? = some (.slice ra rn rc)∧Q (s i) (t i) w ra rn rc x) ∧
    ∀ i j,i<xss.length→j<xss.length→i ≠ j→t i≤s j∨t j≤s i
section
variable {α:Type} {Q:RowP α} {lo hi lo' hi':Nat} {w w':World} {vs:List Value} {xss:List α}
theorem SepV.nil (Q:RowP α) (lo hi:Nat) (w:World):SepV Q lo hi w [] []:=⟨rfl,fun _=>0,fun _=>0,fun i hi=>by simp at hi,fun i j hi=>by simp at hi⟩
theorem SepV.keep (ok:RowPOK Q) (h:SepV Q lo hi w vs xss) (hk:Keeps lo hi w w'):SepV Q lo hi w' vs xss:=by
  obtain ⟨h1,s,t,h2,h3⟩:=h
  refine ⟨h1,s,t,fun i hi=>?_,h3⟩
  obtain ⟨g1,g2,g0,ra,rn,rc,x,g3,g4,g5⟩:=h2 i hi
  exact ⟨g1,g2,g0.keep hk g1 g2,ra,rn,rc,x,g3,g4,ok.keep g5 (hk.mono g1 g2)⟩
theorem SepV.wide (h:SepV Q lo hi w vs xss) (hl:lo'≤lo) (hh:hi≤hi'):SepV Q lo' hi' w vs xss:=by
  obtain ⟨h1,s,t,h2,h3⟩:=h
  refine ⟨h1,s,t,fun i hi=>?_,h3⟩
  obtain ⟨g1,g2,g⟩:=h2 i hi
  exact ⟨by omega,by omega,g⟩
theorem SepV.snoc (h:SepV Q lo hi w vs xss) {s' t':Nat} {ra:Option Addr} {rn rc:Nat} {x:α} (hx:Q s' t' w ra rn rc x) (hd:HeadI w s' t') (hl:lo≤s') (hs:hi≤s') (ht:t'≤hi') (hh:hi≤hi'):SepV Q lo hi' w (vs ++ [.slice ra rn rc]) (xss ++ [x]):=by
  obtain ⟨h1,s,t,h2,h3⟩:=h
  refine ⟨by simp [h1],fun i=>if i=xss.length then s' else s i,fun i=>if i=xss.length then t' else t i,fun i hi=>?_,fun i j hi hj hij=>?_⟩
  · by_cases e:i=xss.length
    · subst e
      simp only [if_true]
      exact ⟨hl,ht,hd,ra,rn,rc,x,by simp,by rw [← h1];simp,hx⟩
    · simp only [if_neg e]
      have hi':i<xss.length:=by simp at hi;omega
      obtain ⟨g1,g2,g0,ra',rn',rc',y,g3,g4,g5⟩:=h2 i hi'
      exact ⟨g1,by omega,g0,ra',rn',rc',y,by rw [List.getElem?_append_left hi'];exact g3,by rw [List.getElem?_append_left (by omega)];exact g4,g5⟩
  · simp at hi hj
    by_cases e:i=xss.length
    · have e':j ≠ xss.length:=by omega
      simp only [if_pos e,if_neg e']
      have:=h2 j (by omega)
      omega
    · by_cases e':j=xss.length
      · simp only [if_neg e,if_pos e']
        have:=h2 i (by omega)
        omega
      · simp only [if_neg e,if_neg e']
        exact h3 i j (by omega) (by omega) hij
theorem SepV.one (h:SepV Q lo hi w vs xss):∀ u∈vs,u.oneCell'=true:=by
  obtain ⟨h1,s,t,h2,_⟩:=h
  intro u hu
  obtain ⟨i,hi,rfl⟩:=List.getElem_of_mem hu
  obtain ⟨_,_,_,ra,rn,rc,x,_,g4,_⟩:=h2 i (by omega)
  rw [List.getElem?_eq_getElem hi] at g4
  rw [Option.some.inj g4];rfl
theorem SepV.grown (ok:RowPOK Q) {e:TypeId} {base:Nat} {a:Option Addr} {n c:Nat} (h:SepV Q lo hi w vs xss) (ho:OwnV e base w a n c vs) (hg:w.grownBy w' (Value.slice a n c).ownBlock) (hh:hi≤w.heap.size):SepV Q lo hi w' vs xss:=by
  obtain ⟨h1,s,t,h2,h3⟩:=h
  have hlen:=ho.len
  have key:∀ i,i<xss.length→Keeps (s i) (t i) w w':=by
    intro i hi k hk1 hk2
    obtain ⟨g1,g2,g0,_⟩:=h2 i hi
    obtain ⟨ht,z,hz⟩:=g0 (by omega)
    obtain rfl:k=s i:=by omega
    refine hg.block _ (by omega) ?_
    intro e'
    have hn:0<n:=by omega
    obtain ⟨b,off,hb,_,_,hc⟩:=ho.vals.open hn
    have h0:=ho.1.2
    rcases h0 with ⟨h0,_⟩ | ⟨g,cap,cur,hv,_⟩
    · simp only [Value.slice.injEq] at h0;omega
    · simp only [Value.slice.injEq] at hv
      obtain ⟨rfl,_,rfl⟩:=hv
      simp only [Option.some.injEq,Addr.mk.injEq,and_true] at hb
      obtain ⟨rfl,rfl⟩:=hb
      simp only [Value.ownBlock,Option.some.injEq] at e'
      obtain ⟨_,_,_,ra,rn,rc,x,_,f4,_⟩:=h2 0 (by omega)
      have:=hc 0 _ f4
      rw [← e',Nat.zero_add,hz] at this
      cases this
  refine ⟨h1,s,t,fun i hi=>?_,h3⟩
  obtain ⟨g1,g2,g0,ra,rn,rc,x,g3,g4,g5⟩:=h2 i hi
  exact ⟨g1,g2,g0.keep (key i hi) (Nat.le_refl _) (Nat.le_refl _),ra,rn,rc,x,g3,g4,ok.keep g5 (key i hi)⟩
end
def SepA {α:Type} (Q:RowP α) (lo hi:Nat) (w:World) (a:Option Addr) (n c:Nat) (xss:List α):Prop :=
  xss.length=n∧n≤c∧c≤maxLen ∧
  (0<n→∃ b off,a=some ⟨b,off,none⟩∧lo≤b∧b<hi∧∃ vs,SepV Q lo hi w vs xss∧∀ i u,vs[i]? = some u→w.cell? ⟨b,off+i,none⟩=some u∧w.frozen? ⟨b,off+i,none⟩=false) ∧
  (a=none→c=0)
section
variable {α:Type} {Q:RowP α} {lo hi lo' hi':Nat} {w w':World} {a:Option Addr} {n c:Nat} {xss:List α}
theorem SepA.len (h:SepA Q lo hi w a n c xss):xss.length=n:=h.1
theorem SepA.small (h:SepA Q lo hi w a n c xss):n≤9223372036854775807:=by
  have h1:=h.2.1;have h2:=h.2.2.1;unfold maxLen at h2;omega
theorem SepA.keep (ok:RowPOK Q) (h:SepA Q lo hi w a n c xss) (hk:Keeps lo hi w w'):SepA Q lo hi w' a n c xss:=by
  obtain ⟨h1,h2,h3,h4,h5⟩:=h
  refine ⟨h1,h2,h3,fun hn=>?_,h5⟩
  obtain ⟨b,off,ha,hl,hb,vs,hv,hc⟩:=h4 hn
  refine ⟨b,off,ha,hl,hb,vs,hv.keep ok hk,fun i u hu=>?_⟩
  rw [World.cell?_of_block (w:=w) (hk b hl hb),World.frozen?_of_block (w:=w) (hk b hl hb)];exact hc i u hu
theorem SepA.wide (h:SepA Q lo hi w a n c xss) (h1:lo'≤lo) (h2:hi≤hi'):SepA Q lo' hi' w a n c xss:=by
  obtain ⟨g1,g2,g3,g4,g5⟩:=h
  refine ⟨g1,g2,g3,fun hn=>?_,g5⟩
  obtain ⟨b,off,ha,hl,hb,vs,hv,hc⟩:=g4 hn
  exact ⟨b,off,ha,by omega,by omega,vs,hv.wide h1 h2,hc⟩
theorem SepA.sl {R:Rep α} (hR:∀ {lo hi w ra rn rc x},Q lo hi w ra rn rc x→R true lo hi w [.slice ra rn rc] x) (ok:RepOK R) (h:SepA Q lo hi w a n c xss):SlA 1 R true lo hi w a n c xss:=by
  obtain ⟨h1,h2,h3,h4,h5⟩:=h
  refine ⟨h1,h2,h3,fun hn=>?_,h5⟩
  obtain ⟨b,off,ha,hl,hb,vs,hv,hc⟩:=h4 hn
  refine ⟨b,off,ha,hl,hb,fun i hi=>?_⟩
  obtain ⟨_,s,t,g1,_⟩:=hv
  obtain ⟨e1,e2,_,ra,rn,rc,x,e3,e4,e5⟩:=g1 i (by omega)
  refine ⟨[.slice ra rn rc],x,rfl,e3,ok.wide (hR e5) e1 e2,fun j hj=>?_⟩
  obtain rfl:j=0:=by omega
  have:=hc i _ e4
  exact ⟨by simpa using this.1,fun _=>by simpa using this.2⟩
theorem SepA.row (ok:RowPOK Q) {b off:Nat} (h:SepA Q lo hi w (some ⟨b,off,none⟩) n c xss) {i:Nat} (hi':i<n) {x:α} (hx:xss[i]? = some x) :
    ∃ s t ra rn rc,lo≤s∧t≤hi∧w.cell? ⟨b,off+i,none⟩=some (.slice ra rn rc)∧Q s t w ra rn rc x ∧
      ∀ w' y,Marked s t w w'→Q s t w' ra rn rc y→SepA Q lo hi w' (some ⟨b,off,none⟩) n c (xss.set i y):=by
  obtain ⟨h1,h2,h3,h4,h5⟩:=h
  obtain ⟨b',off',ha,hl,hb,vs,hv,hc⟩:=h4 (by omega)
  simp only [Option.some.injEq,Addr.mk.injEq,and_true] at ha
  obtain ⟨rfl,rfl⟩:=ha
  obtain ⟨k1,s,t,g1,g2⟩:=hv
  obtain ⟨e1,e2,e0,ra,rn,rc,x',e3,e4,e5⟩:=g1 i (by omega)
  rw [hx] at e3;cases e3
  refine ⟨s i,t i,ra,rn,rc,e1,e2,(hc i _ e4).1,e5,fun w' y hm hy=>?_⟩
  refine ⟨by simpa using h1,h2,h3,fun _=>⟨b,off,rfl,hl,hb,vs,⟨by simpa using k1,s,t,fun j hj=>?_,fun j k hj hk=>by simp at hj hk;exact g2 j k hj hk⟩,fun j u hu=>?_⟩,h5⟩
  · simp at hj
    by_cases e:j=i
    · subst e
      refine ⟨e1,e2,?_,ra,rn,rc,y,by rw [List.getElem?_set_self (by omega)],e4,hy⟩
      intro hlt
      obtain ⟨k3,z,k4⟩:=e0 hlt
      obtain ⟨v',q1,q2⟩:=hm.cell _ _ k4
      rcases q2 with rfl | ⟨_,z',_,rfl,_⟩
      · exact ⟨k3,z,q1⟩
      · exact ⟨k3,z',q1⟩
    · obtain ⟨f1,f2,f0,ra',rn',rc',z,f3,f4,f5⟩:=g1 j hj
      have hkk:=hm.keeps (lo':=s j) (hi':=t j) (by have:=g2 j i hj (by omega) e;omega)
      exact ⟨f1,f2,f0.keep hkk (Nat.le_refl _) (Nat.le_refl _),ra',rn',rc',z,by rw [List.getElem?_set_ne (by omega)];exact f3,f4,ok.keep f5 hkk⟩
  · obtain ⟨g3,g4⟩:=hc j u hu
    have hsl:∃ ra rn rc,u=.slice ra rn rc:=by
      have hj:j<xss.length:=by rw [← k1];exact (List.getElem?_eq_some_iff.1 hu).1
      obtain ⟨_,_,_,ra',rn',rc',_,_,f4,_⟩:=g1 j hj
      rw [hu] at f4;cases f4;exact ⟨_,_,_,rfl⟩
    obtain ⟨ra',rn',rc',rfl⟩:=hsl
    obtain ⟨v',q1,q2⟩:=hm.cell _ _ g3
    refine ⟨?_,by rw [hm.frz];exact g4⟩
    rcases q2 with rfl | ⟨_,_,h,_⟩
    · exact q1
    · cases h
end
theorem SepA.own {α:Type} {Q:RowP α} {e:TypeId} {base:Nat} {w:World} {a:Option Addr} {n c:Nat} {vs:List Value} {xss:List α} (h:OwnV e base w a n c vs) (hv:SepV Q base w.heap.size w vs xss):SepA Q base w.heap.size w a n c xss:=by
  have hlen:=h.len
  obtain ⟨h1,h2⟩:=h.1
  rcases h2 with ⟨h2,h3⟩ | ⟨g,cap,cur,hvv,hb,hg,hnc,hcm,hcs,htake⟩
  · simp only [Value.slice.injEq] at h2
    obtain ⟨rfl,rfl,rfl⟩:=h2
    exact ⟨by rw [← hv.1];exact hlen,Nat.le_refl _,by simp [maxLen],fun h=>by omega,fun _=>rfl⟩
  · have ho':=h.1
    simp only [Value.slice.injEq] at hvv
    obtain ⟨rfl,_,rfl⟩:=hvv
    refine ⟨by rw [← hv.1];exact hlen,hnc,hcm,fun _=>⟨g,0,rfl,hb,(Array.getElem?_eq_some_iff.1 hg).1,vs,hv,fun i u hu=>⟨?_,?_⟩⟩,fun h=>(by cases h)⟩
    · have h5:=ho'.cells (g:=g) rfl i u hu
      rwa [Addr.add_lit] at h5
    · exact frozen_of_row w g (0+i) cur _ hg
theorem Own.head {base:Nat} {w:World} {a:Option Addr} {n c:Nat} {xs:List Int} (h:Own base w a n c xs) (hb:base≤w.heap.size):∃ s t,base≤s∧t≤w.heap.size∧IntsA true s t w a n c xs∧HeadI w s t:=by
  have hi:=h.ints
  by_cases hn:0<n
  · rcases h.1.2 with ⟨h2,h3⟩ | ⟨g,cap,cur,hv,hbg,hg,_⟩
    · simp only [Value.slice.injEq] at h2;omega
    · simp only [Value.slice.injEq] at hv
      obtain ⟨rfl,_,rfl⟩:=hv
      obtain ⟨b,off,ha,_,_,hc,hf⟩:=hi.open hn
      simp only [Option.some.injEq,Addr.mk.injEq,and_true] at ha
      obtain ⟨rfl,rfl⟩:=ha
      have hlt:g<w.heap.size:=(Array.getElem?_eq_some_iff.1 hg).1
      exact ⟨g,g+1,hbg,hlt,⟨hi.1,hi.2.1,hi.2.2.1,hi.2.2.2.1,fun _=>⟨g,0,rfl,Nat.le_refl _,by omega,fun i hi=>⟨hc i hi,fun hz=>hf hz i hi⟩⟩,fun h=>(by cases h)⟩,fun _=>⟨rfl,_,hc 0 hn⟩⟩
  · exact ⟨base,base,Nat.le_refl _,hb,⟨hi.1,hi.2.1,hi.2.2.1,hi.2.2.2.1,fun h=>absurd h hn,hi.2.2.2.2.2⟩,fun h=>by omega⟩
end Go.Proofs.Ytpbclpopoodklaa
