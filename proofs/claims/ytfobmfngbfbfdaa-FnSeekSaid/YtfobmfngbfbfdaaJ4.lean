/- Lemmas for the proof of FnIteration, part 4 of 22: no condition of their own. -/
import Derived.Test.YtfobmfngbfbfdaaJ3
import Derived.Test.YtfobmfngbfbfdaaJ2
import Derived.Test.YtfobmfngbfbfdaaJ1
import Derived.Deep.DeepCutAuto
import Derived.Deep.CutBlock
import Derived.Deep.RegionLaw
import Derived.Orders
namespace Go.Proofs.Ytfobmfngbfbfdaa
set_option linter.unusedSimpArgs false
set_option linter.unusedVariables false
open Go.RowKit
abbrev RowP (α:Type):=Nat→Nat→World→Option Addr→Nat→Nat→α→Prop
structure RowPOK {α:Type} (Q:RowP α):Prop where
 keep:∀ {lo hi w w' a n c x},Q lo hi w a n c x→Keeps lo hi w w'→Q lo hi w' a n c x
 wide:∀ {lo hi lo' hi' w a n c x},Q lo hi w a n c x→lo'≤lo→hi≤hi'→Q lo' hi' w a n c x
def HeadI (w:World) (s t:Nat):Prop:=s<t→t=s+1∧∃ z:Int,w.cell? ⟨s,0,none⟩=some (.int .i64 z)
theorem HeadI.keep {w w':World} {s t lo hi:Nat} (h:HeadI w s t) (hk:Keeps lo hi w w') (h1:lo≤s) (h2:t≤hi):HeadI w' s t:=fun hlt=>by
 obtain ⟨g1,z,g2⟩:=h hlt
 exact ⟨g1,z,by rw [World.cell?_of_block (w:=w) (hk s h1 (by omega))];exact g2⟩
def SepV {α:Type} (Q:RowP α) (lo hi:Nat) (w:World) (vs:List Value) (xss:List α):Prop :=
 vs.length=xss.length∧∃ s t:Nat→Nat,(∀ i,i<xss.length→lo≤s i∧t i≤hi∧HeadI w (s i) (t i)∧∃ ra rn rc x,xss[i]? = some x∧vs[i]? = some (.slice ra rn rc)∧Q (s i) (t i) w ra rn rc x) ∧
  ∀ i j,i<xss.length→j<xss.length→i ≠ j→t i≤s j∨t j≤s i
section
variable {α:Type} {Q:RowP α} {lo hi lo' hi':Nat} {w w':World} {vs:List Value} {xss:List α}
theorem SepV.nil (Q:RowP α) (lo hi:Nat) (w:World):SepV Q lo hi w [] []:=⟨rfl,fun _=>0,fun _=>0,fun i hi=>by simp at hi,fun i j hi=>by simp at hi⟩
theorem SepV.keep (ok:RowPOK Q) (h:SepV Q lo hi w vs xss) (hk:Keeps lo hi w w'):SepV Q lo hi w' vs xss:=by
 obtain ⟨h1,s,t,h2,h3⟩:=h
 refine ⟨h1,s,t,fun i hi=>?_,h3⟩
 obtain ⟨g1,g2,g0,ra,rn,rc,x,g3,g4,g5⟩:=h2 i hi
 exact ⟨g1,g2,g0.keep hk g1 g2,ra,rn,rc,x,g3,g4,ok.keep g5 (hk.mono g1 g2)⟩
theorem SepV.wide (h:SepV Q lo hi w vs xss) (hl:lo'≤lo) (hh:hi≤hi'):SepV Q lo' hi' w vs xss:=by
 obtain ⟨h1,s,t,h2,h3⟩:=h
 refine ⟨h1,s,t,fun i hi=>?_,h3⟩
 obtain ⟨g1,g2,g⟩:=h2 i hi
 exact ⟨by omega,by omega,g⟩
theorem SepV.snoc (h:SepV Q lo hi w vs xss) {s' t':Nat} {ra:Option Addr} {rn rc:Nat} {x:α} (hx:Q s' t' w ra rn rc x) (hd:HeadI w s' t') (hl:lo≤s') (hs:hi≤s') (ht:t'≤hi') (hh:hi≤hi'):SepV Q lo hi' w (vs ++ [.slice ra rn rc]) (xss ++ [x]):=by
 obtain ⟨h1,s,t,h2,h3⟩:=h
 refine ⟨by simp [h1],fun i=>if i=xss.length then s' else s i,fun i=>if i=xss.length then t' else t i,fun i hi=>?_,fun i j hi hj hij=>?_⟩
 ·by_cases e:i=xss.length
  ·subst e
   simp only [if_true]
   exact ⟨hl,ht,hd,ra,rn,rc,x,by simp,by rw [← h1];simp,hx⟩
  ·simp only [if_neg e]
   have hi':i<xss.length:=by simp at hi;omega
   obtain ⟨g1,g2,g0,ra',rn',rc',y,g3,g4,g5⟩:=h2 i hi'
   exact ⟨g1,by omega,g0,ra',rn',rc',y,by rw [List.getElem?_append_left hi'];exact g3,by rw [List.getElem?_append_left (by omega)];exact g4,g5⟩
 ·simp at hi hj
  by_cases e:i=xss.length
  ·have e':j ≠ xss.length:=by omega
   simp only [if_pos e,if_neg e']
   have:=h2 j (by omega)
   omega
  ·by_cases e':j=xss.length
   ·simp only [if_neg e,if_pos e']
    have:=h2 i (by omega)
    omega
   ·simp only [if_neg e,if_neg e']
    exact h3 i j (by omega) (by omega) hij
theorem SepV.grown (ok:RowPOK Q) {e:TypeId} {base:Nat} {a:Option Addr} {n c:Nat} (h:SepV Q lo hi w vs xss) (ho:OwnV e base w a n c vs) (hg:w.grownBy w' (Value.slice a n c).ownBlock) (hh:hi≤w.heap.size):SepV Q lo hi w' vs xss:=by
 obtain ⟨h1,s,t,h2,h3⟩:=h
 have hlen:=ho.len
 have key:∀ i,i<xss.length→Keeps (s i) (t i) w w':=by
  intro i hi k hk1 hk2
  obtain ⟨g1,g2,g0,_⟩:=h2 i hi
  obtain ⟨ht,z,hz⟩:=g0 (by omega)
  obtain rfl:k=s i:=by omega
  refine hg.block _ (by omega) ?_
  intro e'
  have hn:0<n:=by omega
  obtain ⟨b,off,hb,_,_,hc⟩:=ho.vals.open hn
  have h0:=ho.1.2
  rcases h0 with ⟨h0,_⟩ | ⟨g,cap,cur,hv,_⟩
  ·simp only [Value.slice.injEq] at h0;omega
  ·simp only [Value.slice.injEq] at hv
   obtain ⟨rfl,_,rfl⟩:=hv
   simp only [Option.some.injEq,Addr.mk.injEq,and_true] at hb
   obtain ⟨rfl,rfl⟩:=hb
   simp only [Value.ownBlock,Option.some.injEq] at e'
   obtain ⟨_,_,_,ra,rn,rc,x,_,f4,_⟩:=h2 0 (by omega)
   have:=hc 0 _ f4
   rw [← e',Nat.zero_add,hz] at this
   cases this
 refine ⟨h1,s,t,fun i hi=>?_,h3⟩
 obtain ⟨g1,g2,g0,ra,rn,rc,x,g3,g4,g5⟩:=h2 i hi
 exact ⟨g1,g2,g0.keep (key i hi) (Nat.le_refl _) (Nat.le_refl _),ra,rn,rc,x,g3,g4,ok.keep g5 (key i hi)⟩
end
def SepA {α:Type} (Q:RowP α) (lo hi:Nat) (w:World) (a:Option Addr) (n c:Nat) (xss:List α):Prop :=
 xss.length=n∧n≤c∧c≤maxLen∧(0<n→∃ b off,a=some ⟨b,off,none⟩∧lo≤b∧b<hi∧∃ vs,SepV Q lo hi w vs xss∧∀ i u,vs[i]? = some u→w.cell? ⟨b,off+i,none⟩=some u∧w.frozen? ⟨b,off+i,none⟩=false)∧(a=none→c=0)
section
variable {α:Type} {Q:RowP α} {lo hi lo' hi':Nat} {w w':World} {a:Option Addr} {n c:Nat} {xss:List α}
theorem SepA.len (h:SepA Q lo hi w a n c xss):xss.length=n:=h.1
theorem SepA.keep (ok:RowPOK Q) (h:SepA Q lo hi w a n c xss) (hk:Keeps lo hi w w'):SepA Q lo hi w' a n c xss:=by
 obtain ⟨h1,h2,h3,h4,h5⟩:=h
 refine ⟨h1,h2,h3,fun hn=>?_,h5⟩
 obtain ⟨b,off,ha,hl,hb,vs,hv,hc⟩:=h4 hn
 refine ⟨b,off,ha,hl,hb,vs,hv.keep ok hk,fun i u hu=>?_⟩
 rw [World.cell?_of_block (w:=w) (hk b hl hb),World.frozen?_of_block (w:=w) (hk b hl hb)];exact hc i u hu
theorem SepA.wide (h:SepA Q lo hi w a n c xss) (h1:lo'≤lo) (h2:hi≤hi'):SepA Q lo' hi' w a n c xss:=by
 obtain ⟨g1,g2,g3,g4,g5⟩:=h
 refine ⟨g1,g2,g3,fun hn=>?_,g5⟩
 obtain ⟨b,off,ha,hl,hb,vs,hv,hc⟩:=g4 hn
 exact ⟨b,off,ha,by omega,by omega,vs,hv.wide h1 h2,hc⟩
theorem SepA.sl {R:Rep α} (hR:∀ {lo hi w ra rn rc x},Q lo hi w ra rn rc x→R true lo hi w [.slice ra rn rc] x) (ok:RepOK R) (h:SepA Q lo hi w a n c xss):SlA 1 R true lo hi w a n c xss:=by
 obtain ⟨h1,h2,h3,h4,h5⟩:=h
 refine ⟨h1,h2,h3,fun hn=>?_,h5⟩
 obtain ⟨b,off,ha,hl,hb,vs,hv,hc⟩:=h4 hn
 refine ⟨b,off,ha,hl,hb,fun i hi=>?_⟩
 obtain ⟨_,s,t,g1,_⟩:=hv
 obtain ⟨e1,e2,_,ra,rn,rc,x,e3,e4,e5⟩:=g1 i (by omega)
 refine ⟨[.slice ra rn rc],x,rfl,e3,ok.wide (hR e5) e1 e2,fun j hj=>?_⟩
 obtain rfl:j=0:=by omega
 have:=hc i _ e4
 exact ⟨by simpa using this.1,fun _=>by simpa using this.2⟩
theorem SepA.row (ok:RowPOK Q) {b off:Nat} (h:SepA Q lo hi w (some ⟨b,off,none⟩) n c xss) {i:Nat} (hi':i<n) {x:α} (hx:xss[i]? = some x) :
 ∃ s t ra rn rc,lo≤s∧t≤hi∧w.cell? ⟨b,off+i,none⟩=some (.slice ra rn rc)∧Q s t w ra rn rc x ∧
  ∀ w' y,Marked s t w w'→Q s t w' ra rn rc y→SepA Q lo hi w' (some ⟨b,off,none⟩) n c (xss.set i y):=by
 obtain ⟨h1,h2,h3,h4,h5⟩:=h
 obtain ⟨b',off',ha,hl,hb,vs,hv,hc⟩:=h4 (by omega)
 simp only [Option.some.injEq,Addr.mk.injEq,and_true] at ha
 obtain ⟨rfl,rfl⟩:=ha
 obtain ⟨k1,s,t,g1,g2⟩:=hv
 obtain ⟨e1,e2,e0,ra,rn,rc,x',e3,e4,e5⟩:=g1 i (by omega)
 rw [hx] at e3;cases e3
 refine ⟨s i,t i,ra,rn,rc,e1,e2,(hc i _ e4).1,e5,fun w' y hm hy=>?_⟩
 refine ⟨by simpa using h1,h2,h3,fun _=>⟨b,off,rfl,hl,hb,vs,⟨by simpa using k1,s,t,fun j hj=>?_,fun j k hj hk=>by simp at hj hk;exact g2 j k hj hk⟩,fun j u hu=>?_⟩,h5⟩
 ·simp at hj
  by_cases e:j=i
  ·subst e
   refine ⟨e1,e2,?_,ra,rn,rc,y,by rw [List.getElem?_set_self (by omega)],e4,hy⟩
   intro hlt
   obtain ⟨k3,z,k4⟩:=e0 hlt
   obtain ⟨v',q1,q2⟩:=hm.cell _ _ k4
   rcases q2 with rfl | ⟨_,z',_,rfl,_⟩
   ·exact ⟨k3,z,q1⟩
   ·exact ⟨k3,z',q1⟩
  ·obtain ⟨f1,f2,f0,ra',rn',rc',z,f3,f4,f5⟩:=g1 j hj
   have hkk:=hm.keeps (lo':=s j) (hi':=t j) (by have:=g2 j i hj (by omega) e;omega)
   exact ⟨f1,f2,f0.keep hkk (Nat.le_refl _) (Nat.le_refl _),ra',rn',rc',z,by rw [List.getElem?_set_ne (by omega)];exact f3,f4,ok.keep f5 hkk⟩
 ·obtain ⟨g3,g4⟩:=hc j u hu
  have hsl:∃ ra rn rc,u=.slice ra rn rc:=by
   have hj:j<xss.length:=by rw [← k1];exact (List.getElem?_eq_some_iff.1 hu).1
   obtain ⟨_,_,_,ra',rn',rc',_,_,f4,_⟩:=g1 j hj
   rw [hu] at f4;cases f4;exact ⟨_,_,_,rfl⟩
  obtain ⟨ra',rn',rc',rfl⟩:=hsl
  obtain ⟨v',q1,q2⟩:=hm.cell _ _ g3
  refine ⟨?_,by rw [hm.frz];exact g4⟩
  rcases q2 with rfl | ⟨_,_,h,_⟩
  ·exact q1
  ·cases h
end
theorem SepA.own {α:Type} {Q:RowP α} {e:TypeId} {base:Nat} {w:World} {a:Option Addr} {n c:Nat} {vs:List Value} {xss:List α} (h:OwnV e base w a n c vs) (hv:SepV Q base w.heap.size w vs xss):SepA Q base w.heap.size w a n c xss:=by
 have hlen:=h.len
 obtain ⟨h1,h2⟩:=h.1
 rcases h2 with ⟨h2,h3⟩ | ⟨g,cap,cur,hvv,hb,hg,hnc,hcm,hcs,htake⟩
 ·simp only [Value.slice.injEq] at h2
  obtain ⟨rfl,rfl,rfl⟩:=h2
  exact ⟨by rw [← hv.1];exact hlen,Nat.le_refl _,by simp [maxLen],fun h=>by omega,fun _=>rfl⟩
 ·have ho':=h.1
  simp only [Value.slice.injEq] at hvv
  obtain ⟨rfl,_,rfl⟩:=hvv
  refine ⟨by rw [← hv.1];exact hlen,hnc,hcm,fun _=>⟨g,0,rfl,hb,(Array.getElem?_eq_some_iff.1 hg).1,vs,hv,fun i u hu=>⟨?_,?_⟩⟩,fun h=>(by cases h)⟩
  ·have h5:=ho'.cells (g:=g) rfl i u hu
   rwa [Addr.add_lit] at h5
  ·exact frozen_of_row w g (0+i) cur _ hg
theorem Own.head {base:Nat} {w:World} {a:Option Addr} {n c:Nat} {xs:List Int} (h:Own base w a n c xs) (hb:base≤w.heap.size):∃ s t,base≤s∧t≤w.heap.size∧IntsA true s t w a n c xs∧HeadI w s t:=by
 have hi:=h.ints
 by_cases hn:0<n
 ·rcases h.1.2 with ⟨h2,h3⟩ | ⟨g,cap,cur,hv,hbg,hg,_⟩
  ·simp only [Value.slice.injEq] at h2;omega
  ·simp only [Value.slice.injEq] at hv
   obtain ⟨rfl,_,rfl⟩:=hv
   obtain ⟨b,off,ha,_,_,hc,hf⟩:=hi.open hn
   simp only [Option.some.injEq,Addr.mk.injEq,and_true] at ha
   obtain ⟨rfl,rfl⟩:=ha
   have hlt:g<w.heap.size:=(Array.getElem?_eq_some_iff.1 hg).1
   exact ⟨g,g+1,hbg,hlt,⟨hi.1,hi.2.1,hi.2.2.1,hi.2.2.2.1,fun _=>⟨g,0,rfl,Nat.le_refl _,by omega,fun i hi=>⟨hc i hi,fun hz=>hf hz i hi⟩⟩,fun h=>(by cases h)⟩,fun _=>⟨rfl,_,hc 0 hn⟩⟩
 ·exact ⟨base,base,Nat.le_refl _,hb,⟨hi.1,hi.2.1,hi.2.2.1,hi.2.2.2.1,fun h=>absurd h hn,hi.2.2.2.2.2⟩,fun h=>by omega⟩
end Go.Proofs.Ytfobmfngbfbfdaa
namespace Go.Proofs.Ytfobmfngbfbfdaa
set_option linter.unusedSimpArgs false
set_option linter.unusedVariables false
open Go.RowKit
def intsQ:RowP (List Int):=fun lo hi w a n c xs=>IntsA true lo hi w a n c xs
theorem intsQOK:RowPOK intsQ:=⟨fun h hk=>IntsA.keep h hk,fun h h1 h2=>IntsA.wide h h1 h2⟩
abbrev RowsS:=SepA intsQ
theorem RowsS.rows {lo hi:Nat} {w:World} {a:Option Addr} {n c:Nat} {xss:List (List Int)} (h:RowsS lo hi w a n c xss):RowsA true lo hi w a n c xss:=SepA.sl (R:=intsR) (fun {lo hi w ra rn rc x} h=>⟨ra,rn,rc,rfl,h⟩) intsOK h
end Go.Proofs.Ytfobmfngbfbfdaa
namespace Go.Proofs.Ytfobmfngbfbfdaa
set_option linter.unusedSimpArgs false
set_option linter.unusedVariables false
open Go.RowKit
def Apart4 (lo hi s0 t0 s1 t1 s2 t2 s3 t3:Nat):Prop:=(lo≤s0∧t0≤hi∧lo≤s1∧t1≤hi∧lo≤s2∧t2≤hi∧lo≤s3∧t3≤hi)∧(t0≤s1∨t1≤s0)∧(t0≤s2∨t2≤s0)∧(t0≤s3∨t3≤s0)∧(t1≤s2∨t2≤s1)∧(t1≤s3∨t3≤s1)∧(t2≤s3∨t3≤s2)
def IterS (lo hi:Nat) (w:World) (ar:Int) (a:Option Addr) (n c:Nat) (rows:List (List Int)) (la:Option Addr) (ln lc:Nat) (lw:List Int) (ga:Option Addr) (gn gc:Nat) (gh:List Int) (pa:Option Addr) (pn pc:Nat) (ps:List Int):Prop :=
 I64 ar∧∃ s0 t0 s1 t1 s2 t2 s3 t3,RowsS s0 t0 w a n c rows∧IntsA true s1 t1 w la ln lc lw∧IntsA true s2 t2 w ga gn gc gh∧IntsA true s3 t3 w pa pn pc ps∧Apart4 lo hi s0 t0 s1 t1 s2 t2 s3 t3
section
variable {lo hi B lo':Nat} {w w':World} {ar:Int} {a:Option Addr} {n c:Nat} {rows:List (List Int)} {la:Option Addr} {ln lc:Nat} {lw:List Int} {ga:Option Addr} {gn gc:Nat} {gh:List Int} {pa:Option Addr} {pn pc:Nat} {ps:List Int}
theorem IterS.it (h:IterS lo hi w ar a n c rows la ln lc lw ga gn gc gh pa pn pc ps):IterA true lo hi w ar a n c rows la ln lc lw ga gn gc gh pa pn pc ps:=by
 obtain ⟨h64,s0,t0,s1,t1,s2,t2,s3,t3,h0,h1,h2,h3,hA⟩:=h
 unfold Apart4 at hA
 exact ⟨⟨h64,SlA.wide intsOK h0.rows (by omega) (by omega)⟩,h1.wide (by omega) (by omega),h2.wide (by omega) (by omega),h3.wide (by omega) (by omega)⟩
theorem kpIterS (h:IterS lo hi w ar a n c rows la ln lc lw ga gn gc gh pa pn pc ps) (hb:Keeps lo hi w w'):IterS lo hi w' ar a n c rows la ln lc lw ga gn gc gh pa pn pc ps:=by
 obtain ⟨h64,s0,t0,s1,t1,s2,t2,s3,t3,h0,h1,h2,h3,hA⟩:=h
 have hA':=hA
 unfold Apart4 at hA'
 exact ⟨h64,s0,t0,s1,t1,s2,t2,s3,t3,SepA.keep intsQOK h0 (hb.mono (by omega) (by omega)),h1.keep (hb.mono (by omega) (by omega)),h2.keep (hb.mono (by omega) (by omega)),h3.keep (hb.mono (by omega) (by omega)),hA⟩
theorem wdIterS (h:IterS lo hi w ar a n c rows la ln lc lw ga gn gc gh pa pn pc ps) (hl:lo'≤lo):IterS lo' hi w ar a n c rows la ln lc lw ga gn gc gh pa pn pc ps:=by
 obtain ⟨h64,s0,t0,s1,t1,s2,t2,s3,t3,h0,h1,h2,h3,hA⟩:=h
 exact ⟨h64,s0,t0,s1,t1,s2,t2,s3,t3,h0,h1,h2,h3,by unfold Apart4 at *;omega⟩
theorem hgIterS {hi':Nat} (h:IterS lo hi w ar a n c rows la ln lc lw ga gn gc gh pa pn pc ps) (hl:hi≤hi'):IterS lo hi' w ar a n c rows la ln lc lw ga gn gc gh pa pn pc ps:=by
 obtain ⟨h64,s0,t0,s1,t1,s2,t2,s3,t3,h0,h1,h2,h3,hA⟩:=h
 exact ⟨h64,s0,t0,s1,t1,s2,t2,s3,t3,h0,h1,h2,h3,by unfold Apart4 at *;omega⟩
end
end Go.Proofs.Ytfobmfngbfbfdaa
namespace Go.Proofs.Ytfobmfngbfbfdaa
set_option linter.unusedSimpArgs false
set_option linter.unusedVariables false
open Go.RowKit
section
variable {k:Nat} {lo hi:Nat} {w w':World} {a:Option Addr} {n c:Nat} {vs:List Value}
def FlatA (k lo hi:Nat) (w:World) (a:Option Addr) (n c:Nat) (vs:List Value):Prop :=
 vs.length=n*k∧n≤c∧c≤maxLen∧(∀ u∈vs,u.oneCell'=true)∧(0<n→∃ b off,a=some ⟨b,off,none⟩∧lo≤b∧b<hi∧∀ i u,vs[i]? = some u→w.cell? ⟨b,off+i,none⟩=some u)∧(a=none→c=0)
theorem FlatA.len (h:FlatA k lo hi w a n c vs):vs.length=n*k:=h.1
theorem FlatA.keep (h:FlatA k lo hi w a n c vs) (hk:Keeps lo hi w w'):FlatA k lo hi w' a n c vs:=by
 obtain ⟨h1,h2,h3,h4,h5,h6⟩:=h
 refine ⟨h1,h2,h3,h4,fun hn=>?_,h6⟩
 obtain ⟨b,off,ha,hl,hb,hc⟩:=h5 hn
 exact ⟨b,off,ha,hl,hb,fun i u hu=>by rw [World.cell?_of_block (w:=w) (hk b hl hb)];exact hc i u hu⟩
theorem FlatA.wide {lo' hi':Nat} (h:FlatA k lo hi w a n c vs) (h1:lo'≤lo) (h2:hi≤hi'):FlatA k lo' hi' w a n c vs:=by
 obtain ⟨g1,g2,g3,g4,g5,g6⟩:=h
 refine ⟨g1,g2,g3,g4,fun hn=>?_,g6⟩
 obtain ⟨b,off,ha,hl,hb,hc⟩:=g5 hn
 exact ⟨b,off,ha,by omega,by omega,hc⟩
theorem FlatA.drewN (h:FlatA k lo hi w a n c vs) (m:Nat):FlatA k lo hi (w.drewN m) a n c vs:=h
theorem FlatA.open (h:FlatA k lo hi w a n c vs) (hn:0<n):∃ b off,a=some ⟨b,off,none⟩∧lo≤b∧b<hi∧∀ i u,vs[i]? = some u→w.cell? ⟨b,off+i,none⟩=some u:=h.2.2.2.2.1 hn
end
def OwnF (e:TypeId) (k base:Nat) (w:World) (a:Option Addr) (n c:Nat) (vs:List Value):Prop:=w.ownsRow base e k (.slice a n c) n vs∧∀ u∈vs,u.oneCell'=true
theorem OwnF.len {e:TypeId} {k base:Nat} {w:World} {a:Option Addr} {n c:Nat} {vs:List Value} (h:OwnF e k base w a n c vs):vs.length=n*k:=h.1.1
theorem OwnF.flat {e:TypeId} {k base:Nat} {w:World} {a:Option Addr} {n c:Nat} {vs:List Value} (h:OwnF e k base w a n c vs):FlatA k base w.heap.size w a n c vs:=by
 have hlen:=h.len
 obtain ⟨ho,h1c⟩:=h
 have ho':=ho
 obtain ⟨h1,h2⟩:=ho
 rcases h2 with ⟨h2,h3⟩ | ⟨g,cap,cur,hv,hb,hg,hnc,hcm,hcs,htake⟩
 ·simp only [Value.slice.injEq] at h2
  obtain ⟨rfl,rfl,rfl⟩:=h2
  exact ⟨hlen,Nat.zero_le _,by simp [maxLen],h1c,fun h=>by omega,fun _=>rfl⟩
 ·simp only [Value.slice.injEq] at hv
  obtain ⟨rfl,_,rfl⟩:=hv
  refine ⟨hlen,hnc,hcm,h1c,fun _=>⟨g,0,rfl,hb,(Array.getElem?_eq_some_iff.1 hg).1,fun i u hu=>?_⟩,fun h=>(by cases h)⟩
  have h5:=ho'.cells (g:=g) rfl i u hu
  rwa [Addr.add_lit] at h5
theorem OwnF.free {e:TypeId} {k base:Nat} {w:World} {g n c:Nat} {vs:List Value} (h:OwnF e k base w (some ⟨g,0,none⟩) n c vs) (i:Nat):w.frozen? ⟨g,i,none⟩=false:=by
 rcases h.1.2 with ⟨h2,h3⟩ | ⟨g',cap,cur,hv,hb,hg,_⟩
 ·simp at h2
 ·simp only [Value.slice.injEq,Option.some.injEq,Addr.mk.injEq,and_true] at hv
  obtain ⟨rfl,_,rfl⟩:=hv
  exact frozen_of_row w g i cur _ hg
theorem OwnF.head {e:TypeId} {k base:Nat} {w:World} {a:Option Addr} {n c:Nat} {vs:List Value} (h:OwnF e k base w a n c vs) (hn:0<n):∃ g,a=some ⟨g,0,none⟩∧base≤g∧g<w.heap.size:=by
 rcases h.1.2 with ⟨h2,h3⟩ | ⟨g',cap,cur,hv,hb,hg,_⟩
 ·omega
 ·simp only [Value.slice.injEq] at hv
  exact ⟨g',hv.1,hb,(Array.getElem?_eq_some_iff.1 hg).1⟩
theorem OwnF.low {e:TypeId} {k base base':Nat} {w:World} {a:Option Addr} {n c:Nat} {vs:List Value} (h:OwnF e k base w a n c vs) (hb:base'≤base):OwnF e k base' w a n c vs:=by
 obtain ⟨⟨h1,h2⟩,h64⟩:=h
 refine ⟨⟨h1,?_⟩,h64⟩
 rcases h2 with h2 | ⟨g,cap,cur,hv,hb',rest⟩
 ·exact .inl h2
 ·exact .inr ⟨g,cap,cur,hv,by omega,rest⟩
theorem OwnF.keep {e:TypeId} {k base:Nat} {w w':World} {a:Option Addr} {n c:Nat} {vs:List Value} (h:OwnF e k base w a n c vs) (hk:Keeps base w.heap.size w w'):OwnF e k base w' a n c vs:=by
 obtain ⟨⟨h1,h2⟩,h64⟩:=h
 refine ⟨⟨h1,?_⟩,h64⟩
 rcases h2 with h2 | ⟨g,cap,cur,hv,hb,hg,rest⟩
 ·exact .inl h2
 ·exact .inr ⟨g,cap,cur,hv,hb,by rw [hk g hb (Array.getElem?_eq_some_iff.1 hg).1];exact hg,rest⟩
theorem OwnF.alloc {e:TypeId} {k base:Nat} {w:World} {a:Option Addr} {n c:Nat} {vs:List Value} (h:OwnF e k base w a n c vs) (o:Obj):OwnF e k base (w.alloc o) a n c vs:=⟨h.1.alloc o,h.2⟩
theorem OwnF.drewN {e:TypeId} {k base:Nat} {w:World} {a:Option Addr} {n c:Nat} {vs:List Value} (h:OwnF e k base w a n c vs) (m:Nat):OwnF e k base (w.drewN m) a n c vs:=h
theorem ownF_nil (e:TypeId) (k:Nat) (w:World) (base:Nat):OwnF e k base w none 0 0 []:=⟨World.ownsRow_nil ..,fun _ h=>(by cases h)⟩
theorem ownF_empty (e:TypeId) (k:Nat) (w:World) (base g:Nat) (hb:base≤g) (hg:w.heap[g]? = some (.cells #[] e (0,0))):OwnF e k base w (some ⟨g,0,none⟩) 0 0 [] :=
 ⟨⟨by simp,.inr ⟨g,0,#[],rfl,hb,hg,Nat.le_refl _,by simp [maxLen],by simp,by simp⟩⟩,fun _ h=>(by cases h)⟩
structure ElemF (t e:TypeId) (k bytes:Nat):Prop where
 under:Try.prog.underlying t=some (.slice e)
 info:∃ i z,Try.prog.info? e=some i∧i.zero=some z∧i.size=k∧i.bytes=bytes∧z.cells.size=k
 small:bytes≤4096
 pos:0<k
theorem run_append_flat {t e k bytes:Nat} (ht:ElemF t e k bytes) {lo hi:Nat} {w:World} (ty:TypeId) (base:Nat) (a1:Option Addr) (n1 c1:Nat) (vs:List Value) (hown:OwnF e k base w a1 n1 c1 vs)
 (ao:Option Addr) (m c:Nat) (us:List Value) (hI:FlatA k lo hi w ao m c us) (hb:n1+m≤16777216) (hbase:base≤w.heap.size) :
 ∃ a' c' w',(Builtin.append_ #[t,t] ty #[.slice a1 n1 c1,.slice ao m c]).run Try.prog w=.ok (.slice a' (n1+m) c') w'∧OwnF e k base w' a' (n1+m) c' (vs ++ us)∧w.grownBy w' (Value.slice a1 n1 c1).ownBlock:=by
 obtain ⟨i0,z,hi0,hz0,hz1,hz2,hz3⟩:=ht.info
 have h1c:∀ u∈vs ++ us,u.oneCell'=true:=fun u hu=>(List.mem_append.1 hu).elim (hown.2 u) (hI.2.2.2.1 u)
 have hlen:=hI.len
 cases ao with
 | none =>
  have hc0:=hI.2.2.2.2.2 rfl
  have hm0:m=0:=by have:=hI.2.1;omega
  subst hc0;subst hm0
  have hys:us=[]:=List.eq_nil_of_length_eq_zero (by simpa using hlen)
  subst hys
  exact ⟨a1,c1,w,run_append_owned_none (P:=Try.prog) (w:=w) base t ty e i0 k ht.under hi0 _ n1 _ hown.1,by simpa using hown,World.grownBy.refl w _⟩
 | some ad =>
  obtain ⟨v',w',hr,hown',hgrow,_⟩:=run_append_own (P:=Try.prog) w base t ty e i0 z k bytes ht.under hi0 hz0 hz1 hz2 hz3 ht.pos _ n1 _ hown.1 ad m c us hlen (fun j u hj=>by
   have hjm:j<m*k:=by have:=(List.getElem?_eq_some_iff.1 hj).1;omega
   have hm0:0<m:=by
    rcases Nat.eq_zero_or_pos m with h | h
    ·subst h;simp at hjm
    ·exact h
   obtain ⟨b,off,hab,_,_,hcell⟩:=hI.open hm0
   obtain rfl:ad=⟨b,off,none⟩:=by simpa using hab
   rw [Addr.add_lit];exact hcell j u hj) hI.2.2.2.1 (by unfold maxLen;omega) (by
    have h1:=ht.small
    have h2:(n1+m)*bytes≤16777216*4096:=Nat.mul_le_mul hb h1
    omega) hbase
  obtain ⟨a',c',rfl⟩:∃ a' c',v'=.slice a' (n1+m) c':=by
   rcases hown'.2 with ⟨rfl,hz⟩ | ⟨g,cap,cur,rfl,_⟩
   ·exact ⟨none,0,by rw [hz]⟩
   ·exact ⟨_,_,rfl⟩
  exact ⟨a',c',w',hr,⟨hown',h1c⟩,hgrow⟩
end Go.Proofs.Ytfobmfngbfbfdaa
namespace Go.Proofs.Ytfobmfngbfbfdaa
set_option linter.unusedSimpArgs false
set_option linter.unusedVariables false
open Go.RowKit
section
variable {P:Program} {ops:Array Oper} {Q:Exit→Act→World→Prop}
def notDone (ops:Array Oper) (listed:Array Bool):List Nat:=(List.range ops.size).filter fun i=>!listed.getD i true
abbrev PropV:=Value→Nat→Nat→World→Prop
def vp (l:List PropV) (i:Nat) (v:Value) (s t:Nat) (w:World):Prop:=(l.getD i fun _ _ _ _=>True) v s t w
def StableP (p:PropV):Prop:=∀ v s t w' w'',p v s t w'→Below w'.heap.size w' w''→p v s t w''
theorem stab_vp {l:List PropV} (h:∀ p∈l,StableP p):∀ i v s t w' w'',vp l i v s t w'→Below w'.heap.size w' w''→vp l i v s t w'':=by
 intro i v s t w' w'' hv hb
 unfold vp at *
 by_cases hi:i<l.length
 ·have:l.getD i (fun _ _ _ _=>True)=l[i]:=by simp [List.getD,hi]
  rw [this] at hv ⊢
  exact h _ (List.getElem_mem _) v s t w' w'' hv hb
 ·have:l.getD i (fun _ _ _ _=>True)=fun _ _ _ _=>True:=by simp [List.getD,show l.length≤i by omega]
  rw [this];trivial
def pEq (u:Value):PropV:=fun v _ _ _=>v=u
theorem pEq_st (u:Value):StableP (pEq u):=fun _ _ _ _ _ h _=>h
def pEmp (e:TypeId):PropV:=fun v _ _ w'=>∃ g,v=.slice (some ⟨g,0,none⟩) 0 0∧w'.heap[g]? = some (.cells #[] e (0,0))
theorem pEmp_st (e:TypeId):StableP (pEmp e):=fun _ _ _ _ _ ⟨g,h1,h2⟩ hb=>⟨g,h1,by rw [hb.block g (Array.getElem?_eq_some_iff.1 h2).1];exact h2⟩
theorem notDone_set {listed:Array Bool} {i:Nat} (hi:i<ops.size) (hs:listed.size=ops.size) (hf:listed.getD i true=false) :
 (notDone ops (listed.setIfInBounds i true)).length<(notDone ops listed).length:=by
 unfold notDone
 have hsub:∀ j,(!(listed.setIfInBounds i true).getD j true)=((!listed.getD j true) && decide (j ≠ i)):=by
  intro j
  by_cases e:i=j
  ·subst e;simp [show i<listed.size by omega]
  ·rw [getD_set_ne true e];simp [show j ≠ i from fun h=>e h.symm]
 have hmem:i∈(List.range ops.size).filter fun j=>!listed.getD j true:=List.mem_filter.2 ⟨List.mem_range.2 hi,by rw [hf];rfl⟩
 have h1:((List.range ops.size).filter fun j=>!(listed.setIfInBounds i true).getD j true)=(((List.range ops.size).filter fun j=>!listed.getD j true).filter fun j=>decide (j ≠ i)):=by
  rw [List.filter_filter];congr 1;funext j;rw [hsub j,Bool.and_comm]
 rw [h1]
 exact List.length_filter_lt_length_iff_exists.2 ⟨i,hmem,by simp⟩
theorem wp_region_inv {id:Nat} {a:Act} {w:World} (hm:P.follows .mixedOrders=true) (Inv:(Nat→Bool)→Act→World→Prop)
 (hback:∀ i o,ops[i]? = some o→∀ e∈o.after,Region.binds .any e=true→e.on<i)
 (h0:Inv (fun _=>false) a w.drew)
 (hs:∀ (d:Nat→Bool) a' w' i o,ops[i]? = some o→d i=false→(∀ e∈o.after,Region.binds .any e=true→d e.on=true) →
  (∀ j o',ops[j]? = some o'→d j=true→∀ e∈o'.after,Region.binds .any e=true→d e.on=true)→(∀ j,ops.size≤j→d j=false)→Inv d a' w'→wpOp P ops Q i (fun a'' w''=>Inv (fun j=>if j=i then true else d j) a'' w'') a' w')
 (he:∀ (d:Nat→Bool) a' w',(∀ i,i<ops.size→d i=true)→(∀ j,ops.size≤j→d j=false)→Inv d a' w'→Q .normal a' w') :
 (Code.region id ops true).wp P Q a w:=by
 have all:∀ (listed:Array Bool),listed.size=ops.size→Region.ready .any ops listed=[]→∀ i,i<ops.size→listed.getD i false=true:=by
  intro listed hsz hr i
  induction i using Nat.strongRecOn with
  | ind i ih =>
   intro hi
   cases hd:listed.getD i false with
   | true=>rfl
   | false =>
    exfalso
    have hmem:i∈Region.ready .any ops listed:=mem_ready.2 ⟨by
     have h1:i<listed.size:=by omega
     simp [Array.getD,h1] at hd ⊢;exact hd,ops[i],by simp [hi],fun e he' hb=>by
     have hlt:=hback i ops[i] (by simp [hi]) e he' hb
     exact ih _ hlt (by omega)⟩
    rw [hr] at hmem;cases hmem
 have key:∀ (fuel:Nat) (listed:Array Bool) (a':Act) (w':World),listed.size=ops.size→(notDone ops listed).length≤fuel →
  (∀ j o',ops[j]? = some o'→listed.getD j false=true→∀ e∈o'.after,Region.binds .any e=true→listed.getD e.on false=true)→Inv (fun i=>listed.getD i false) a' w'→wpAny P .any ops Q fuel listed a' w':=by
  intro fuel
  induction fuel with
  | zero =>
   intro listed a' w' hsz hc hcl hI
   have hnil:notDone ops listed=[]:=List.eq_nil_of_length_eq_zero (by omega)
   have hr:Region.ready .any ops listed=[]:=by
    cases hr:Region.ready .any ops listed with
    | nil=>rfl
    | cons x xs =>
     have hx:x∈Region.ready .any ops listed:=by rw [hr];simp
     obtain ⟨h1,o,ho,_⟩:=mem_ready.1 hx
     have:x∈notDone ops listed:=List.mem_filter.2 ⟨List.mem_range.2 (Array.getElem?_eq_some_iff.1 ho).1,by rw [h1];rfl⟩
     rw [hnil] at this;cases this
   exact ⟨hr,he _ _ _ (all listed hsz hr) (fun j hj=>by simp [Array.getD,show ¬ j<listed.size by omega]) hI⟩
  | succ fuel ih =>
   intro listed a' w' hsz hc hcl hI
   refine ⟨fun hr=>he _ _ _ (all listed hsz hr) (fun j hj=>by simp [Array.getD,show ¬ j<listed.size by omega]) hI,fun i hi=>?_⟩
   obtain ⟨h1,o,ho,h2⟩:=mem_ready.1 hi
   have hlt:=(Array.getElem?_eq_some_iff.1 ho).1
   have hd:listed.getD i false=false:=by
    have h3:i<listed.size:=by omega
    simp [Array.getD,h3] at h1 ⊢;exact h1
   refine wpOp_mono (fun a'' w'' hI'=>ih (listed.setIfInBounds i true) a'' w'' (by simpa using hsz) ?_ ?_ ?_) (hs _ a' w' i o ho hd h2 hcl (fun j hj=>by simp [Array.getD,show ¬ j<listed.size by omega]) hI)
   ·have:=notDone_set hlt hsz h1;omega
   ·intro j o' ho' hj e he' hb
    by_cases hji:i=j
    ·subst hji
     rw [ho] at ho';cases ho'
     by_cases hei:i=e.on
     ·rw [← hei];simp [show i<listed.size by omega]
     ·rw [getD_set_ne false hei];exact h2 e he' hb
    ·rw [getD_set_ne false hji] at hj
     by_cases hei:i=e.on
     ·rw [← hei];simp [show i<listed.size by omega]
     ·rw [getD_set_ne false hei];exact hcl j o' ho' hj e he' hb
   ·have heq:(fun j=>if j=i then true else listed.getD j false)=(fun j=>(listed.setIfInBounds i true).getD j false):=by
     symm
     funext j
     by_cases e:i=j
     ·subst e;simp [show i<listed.size by omega]
     ·rw [getD_set_ne false e];simp [show ¬ j=i from fun h=>e h.symm]
    exact heq ▸ hI'
 refine wp_region_any hm (key _ _ _ _ (by simp) ?_ ?_ ?_)
 ·unfold notDone;exact Nat.le_trans (List.length_filter_le _ _) (by simp)
 ·intro j o' ho' hj;exfalso
  by_cases hjs:j<ops.size <;> simp [Array.getD,hjs] at hj
 ·have:(fun i=>(Array.replicate ops.size false).getD i false)=fun _=>false:=by
   funext i
   by_cases h:i<ops.size <;> simp [Array.getD,h]
  rw [this];exact h0
def reachF (ops:Array Oper):Nat→Nat→Nat→Bool
 | 0,_,_=>false
 | f+1,k,j=>match ops[k]? with
  | some o=>o.after.toList.any fun e=>Region.binds .any e && (e.on == j || reachF ops f e.on j)
  | none=>false
theorem reachF_done {d:Nat→Bool} (hcl:∀ j o',ops[j]? = some o'→d j=true→∀ e∈o'.after,Region.binds .any e=true→d e.on=true) :
 ∀ (f k j:Nat),(∀ o,ops[k]? = some o→∀ e∈o.after,Region.binds .any e=true→d e.on=true)→reachF ops f k j=true→d j=true:=by
 intro f
 induction f with
 | zero=>intro k j _ h;simp [reachF] at h
 | succ f ih =>
  intro k j hk h
  unfold reachF at h
  cases ho:ops[k]? with
  | none=>rw [ho] at h;cases h
  | some o =>
   rw [ho] at h
   simp only [List.any_eq_true,Bool.and_eq_true,Bool.or_eq_true,beq_iff_eq] at h
   obtain ⟨e,he,hb,h1⟩:=h
   have hd:=hk o ho e (by simpa using he) hb
   rcases h1 with rfl | h1
   ·exact hd
   ·exact ih e.on j (fun o' ho'=>hcl e.on o' ho' hd) h1
def growB (ops:Array Oper) (n N:Nat):Bool :=
 decide (0<n) && decide (n≤ops.size) && (List.range ops.size).all (fun i=>match ops[i]? with
  | some o=>o.after.toList.all (fun e=>!Region.binds .any e || decide (e.on<i)) &&
   (if i<n then o.guard.isNone && (match o.dst with | some t=>decide (t<N) && (List.range i).all (fun j=>match ops[j]? with | some o'=>decide (o'.dst ≠ some t) | none=>true) | none=>false)
    else (List.range i).all (fun j=>reachF ops ops.size i j))
  | none=>true)
structure GrowChk (ops:Array Oper) (n N:Nat):Prop where
 pos:0<n
 le:n≤ops.size
 back:∀ i o,ops[i]? = some o→∀ e∈o.after,Region.binds .any e=true→e.on<i
 guard:∀ i o,i<n→ops[i]? = some o→o.guard=none
 dst:∀ i o,i<n→ops[i]? = some o→∃ t,o.dst=some t∧t<N
 apart:∀ i j o o' t,i<n→j<n→i ≠ j→ops[i]? = some o→ops[j]? = some o'→o.dst=some t→o'.dst ≠ some t
 tail:∀ i j,n≤i→i<ops.size→j<i→reachF ops ops.size i j=true
theorem growChk {n N:Nat} (h:growB ops n N=true):GrowChk ops n N:=by
 simp only [growB,Bool.and_eq_true,decide_eq_true_eq,List.all_eq_true,List.mem_range] at h
 obtain ⟨⟨h1,h2⟩,h3⟩:=h
 have one:∀ i j o o' t,i<n→j<i→ops[i]? = some o→ops[j]? = some o'→o.dst=some t→o'.dst ≠ some t:=by
  intro i j o o' t hi hj ho ho' hd
  have:=h3 i (by omega)
  rw [ho] at this
  simp only [Bool.and_eq_true,if_pos hi] at this
  have h4:=this.2.2
  rw [hd] at h4
  simp only [Bool.and_eq_true,List.all_eq_true,List.mem_range] at h4
  have h5:=h4.2 j hj
  rw [ho'] at h5
  simpa using h5
 refine ⟨h1,h2,fun i o ho e he hb=>?_,fun i o hi ho=>?_,fun i o hi ho=>?_,fun i j o o' t hi hj hij ho ho' hd=>?_,fun i j hi his hj=>?_⟩
 ·have:=h3 i (Array.getElem?_eq_some_iff.1 ho).1
  rw [ho] at this
  simp only [Bool.and_eq_true,List.all_eq_true] at this
  have h4:=this.1 e (by simpa using he)
  rw [hb] at h4
  simpa using h4
 ·have:=h3 i (by omega)
  rw [ho] at this
  simp only [Bool.and_eq_true,if_pos hi] at this
  have h4:=this.2.1
  cases hg:o.guard with
  | none=>rfl
  | some g=>rw [hg] at h4;cases h4
 ·have:=h3 i (by omega)
  rw [ho] at this
  simp only [Bool.and_eq_true,if_pos hi] at this
  have h4:=this.2.2
  cases hd:o.dst with
  | none=>rw [hd] at h4;cases h4
  | some t =>
   rw [hd] at h4
   simp only [Bool.and_eq_true,decide_eq_true_eq] at h4
   exact ⟨t,rfl,h4.1⟩
 ·rcases Nat.lt_or_gt_of_ne hij with h | h
  ·intro hd'
   exact one j i o' o t hj h ho' ho hd' hd
  ·exact one i j o o' t hi h ho ho' hd
 ·have:=h3 i his
  cases ho:ops[i]? with
  | none=>exact absurd (Array.getElem?_eq_none_iff.1 ho) (by omega)
  | some o =>
   rw [ho] at this
   simp only [Bool.and_eq_true,if_neg (show ¬ i<n by omega),List.all_eq_true,List.mem_range] at this
   exact this.2 j hj
def GrowFr (ops:Array Oper) (n:Nat) (a a':Act):Prop:=a'.defers=a.defers∧a'.tmps.size=a.tmps.size∧∀ t,(∀ i o,i<n→ops[i]? = some o→o.dst ≠ some t)→a'.tmps.getD t undef=a.tmps.getD t undef
theorem getD_put_other {a:Act} {t t':Nat} {v:Value} (h:t ≠ t'):(a.put (some t) v).tmps.getD t' undef=a.tmps.getD t' undef:=by
 simp [Act.put,Array.getD_eq_getD_getElem?,Array.getElem?_setIfInBounds_ne h]
theorem getD_put_same {a:Act} {t:Nat} {v:Value} (h:t<a.tmps.size):(a.put (some t) v).tmps.getD t undef=v:=by
 simp [Act.put,Array.getD_eq_getD_getElem?,h]
theorem wp_region_grow {id:Nat} {a:Act} {w:World} (n N:Nat) (hm:P.follows .mixedOrders=true) (hB:growB ops n N=true) (hN:a.tmps.size=N)
 (V:Nat→Value→Nat→Nat→World→Prop)
 (stab:∀ i v s t w' w'',V i v s t w'→Below w'.heap.size w' w''→V i v s t w'')
 (hs:∀ i o,i<n→ops[i]? = some o→∀ a' w',Below w.heap.size w w'→GrowFr ops n a a' →
  (∀ e∈o.after,Region.binds .any e=true→∀ o' d,ops[e.on]? = some o'→o'.dst=some d→∃ s t,V e.on (a'.tmps.getD d undef) s t w')→o.wp P a' w' (fun a'' w''=>∃ v s t,a''=a'.put o.dst v∧Below w'.heap.size w' w''∧w'.heap.size≤s∧t≤w''.heap.size∧V i v s t w'') Q)
 (he:∀ a' w' (s t:Nat→Nat),Below w.heap.size w w'→GrowFr ops n a a'→(∀ i o d,i<n→ops[i]? = some o→o.dst=some d→w.heap.size≤s i∧t i≤w'.heap.size∧V i (a'.tmps.getD d undef) (s i) (t i) w') →
  (∀ i j,i<n→j<n→i ≠ j→t i≤s j∨t j≤s i)→wpList P ops Q (ops.toList.drop n) a' w') :
 (Code.region id ops true).wp P Q a w:=by
 have K:=growChk hB
 let G:(Nat→Bool)→Act→World→Prop:=fun d a' w'=>∃ s t:Nat→Nat,Below w.heap.size w w'∧GrowFr ops n a a'∧(∀ i o dd,i<n→d i=true→ops[i]? = some o→o.dst=some dd→w.heap.size≤s i∧t i≤w'.heap.size∧V i (a'.tmps.getD dd undef) (s i) (t i) w') ∧
  ∀ i j,i<n→j<n→d i=true→d j=true→i ≠ j→t i≤s j∨t j≤s i
 refine wp_region_inv hm (fun d a' w'=>((∃ j,j<n∧d j=false)∧(∀ j,n≤j→d j=false)∧G d a' w')∨∃ m,(∀ j,d j=true↔j<n+m)∧wpList P ops Q (ops.toList.drop (n+m)) a' w') K.back ?_ ?_ ?_
 ·exact .inl ⟨⟨0,K.pos,rfl⟩,fun _ _=>rfl,fun _=>0,fun _=>0,⟨rfl,rfl,rfl,Nat.le_refl _,fun _ _=>rfl⟩,⟨rfl,rfl,fun _ _=>rfl⟩,⟨fun i o t _ h=>(by cases h),fun i j _ _ h=>(by cases h)⟩⟩
 ·intro d a' w' i o ho hd hdeps hcl hbig hI
  have hi:=(Array.getElem?_eq_some_iff.1 ho).1
  unfold wpOp
  rw [ho]
  dsimp only
  by_cases hin:i<n
  ·rcases hI with ⟨_,htl,s,t,hC',hF,hV,hD⟩ | ⟨m,hm',_⟩
   ·obtain ⟨ti,hti,htN⟩:=K.dst i o hin ho
    rw [if_pos (by simp [Region.wanted,K.guard i o hin ho])]
    refine .inl (Oper.wp_mono ?_ (hs i o hin ho a' w' hC' hF (fun e he' hb o' dd ho' ht=>⟨_,_,(hV e.on o' dd (Nat.lt_trans (K.back i o ho e he' hb) hin) (hdeps e he' hb) ho' ht).2.2⟩)))
    rintro a'' w'' ⟨v,s0,t0,rfl,hR,hs0,ht0,hVi⟩
    rw [hti]
    have hF':GrowFr ops n a (a'.put (some ti) v):=by
     refine ⟨hF.1,by simp [Act.put,hF.2.1],fun t ht=>?_⟩
     rw [getD_put_other (by rintro rfl;exact ht i o hin ho hti)]
     exact hF.2.2 t ht
    have hC'':Below w.heap.size w w'':=hC'.trans (hR.mono hC'.size)
    have hV':∀ k o' dd,k<n→(if k=i then true else d k)=true→ops[k]? = some o'→o'.dst=some dd→w.heap.size≤(if k=i then s0 else s k)∧(if k=i then t0 else t k)≤w''.heap.size∧V k ((a'.put (some ti) v).tmps.getD dd undef) (if k=i then s0 else s k) (if k=i then t0 else t k) w'':=by
     intro k o' dd hk hdk ho' ht
     by_cases e:k=i
     ·subst e
      rw [ho] at ho';cases ho'
      rw [hti] at ht;cases ht
      simp only [if_true]
      rw [getD_put_same (by rw [hF.2.1,hN];exact htN)];exact ⟨Nat.le_trans hC'.size hs0,ht0,hVi⟩
     ·rw [if_neg e] at hdk
      simp only [if_neg e]
      rw [getD_put_other (by rintro rfl;exact K.apart i k o o' ti hin hk (fun h=>e h.symm) ho ho' hti ht)]
      obtain ⟨q1,q2,q3⟩:=hV k o' dd hk hdk ho' ht
      exact ⟨q1,Nat.le_trans q2 hR.size,stab _ _ _ _ _ _ q3 hR⟩
    have hD':∀ k l,k<n→l<n→(if k=i then true else d k)=true→(if l=i then true else d l)=true→k ≠ l→(if k=i then t0 else t k)≤(if l=i then s0 else s l)∨(if l=i then t0 else t l)≤(if k=i then s0 else s k):=by
     intro k l hk hl hdk hdl hkl
     by_cases e:k=i
     ·have e':l ≠ i:=fun h=>hkl (e.trans h.symm)
      simp only [if_pos e,if_neg e'] at hdl ⊢
      have hsz:l<ops.size:=Nat.lt_of_lt_of_le hl K.le
      obtain ⟨dd,hdd,_⟩:=K.dst l ops[l] hl (by simp [hsz])
      have:=(hV l ops[l] dd hl hdl (by simp [hsz]) hdd).2.1
      omega
     ·by_cases e':l=i
      ·simp only [if_pos e',if_neg e] at hdk ⊢
       have hsz:k<ops.size:=Nat.lt_of_lt_of_le hk K.le
       obtain ⟨dd,hdd,_⟩:=K.dst k ops[k] hk (by simp [hsz])
       have:=(hV k ops[k] dd hk hdk (by simp [hsz]) hdd).2.1
       omega
      ·simp only [if_neg e,if_neg e'] at hdk hdl ⊢
       exact hD k l hk hl hdk hdl hkl
    by_cases hall:∃ j,j<n∧(if j=i then true else d j)=false
    ·exact .inl ⟨hall,fun j hj=>by rw [if_neg (by omega)];exact htl j hj,_,_,hC'',hF',hV',hD'⟩
    ·have hyes:∀ k,k<n→(if k=i then true else d k)=true:=fun k hk=>by
      cases hdk:(if k=i then true else d k) with
      | true=>rfl
      | false=>exact absurd ⟨k,hk,hdk⟩ hall
     refine .inr ⟨0,fun j=>⟨fun hj=>?_,fun hj=>hyes j (by omega)⟩,he _ _ _ _ hC'' hF' (fun k o' dd hk ho' ht=>hV' k o' dd hk (hyes k hk) ho' ht) (fun k l hk hl hkl=>hD' k l hk hl (hyes k hk) (hyes l hl) hkl)⟩
     by_cases hjn:j<n
     ·omega
     ·rw [if_neg (by omega),htl j (by omega)] at hj;cases hj
   ·have:=(hm' i).2 (by omega)
    rw [hd] at this;cases this
  ·have hdone:∀ j,j<i→d j=true:=fun j hj=>reachF_done hcl _ i j (fun o' ho'=>by rw [ho] at ho';cases ho';exact hdeps) (K.tail i j (by omega) hi hj)
   rcases hI with ⟨⟨j,hj,hdj⟩,_⟩ | ⟨m,hm',hw⟩
   ·rw [hdone j (by omega)] at hdj;cases hdj
   ·have him:i=n+m:=by
     have h1:¬ i<n+m:=fun h=>by rw [(hm' i).2 h] at hd;cases hd
     have h2:¬ n+m<i:=fun h=>by have:=(hm' (n+m)).1 (hdone _ h);omega
     omega
    subst him
    have hdrop:ops.toList.drop (n+m)=o :: ops.toList.drop (n+m+1):=by
     rw [List.drop_eq_getElem_cons (by simpa using hi)]
     congr 1
     have:=(Array.getElem?_eq_some_iff.1 ho).2
     simpa using this
    rw [hdrop] at hw
    unfold wpList at hw
    have hnext:∀ a'' w'',wpList P ops Q (ops.toList.drop (n+m+1)) a'' w''→((∃ j,j<n∧(if j=n+m then true else d j)=false)∧(∀ j,n≤j→(if j=n+m then true else d j)=false)∧G (fun j=>if j=n+m then true else d j) a'' w'')∨∃ m',(∀ j,(if j=n+m then true else d j)=true↔j<n+m')∧wpList P ops Q (ops.toList.drop (n+m')) a'' w'':=by
     intro a'' w'' h
     refine .inr ⟨m+1,fun j=>?_,by rw [← Nat.add_assoc];exact h⟩
     by_cases e:j=n+m
     ·rw [if_pos e];simp;omega
     ·rw [if_neg e,hm' j];omega
    by_cases hwt:Region.wanted o (yielded ops a'.tmps)=true
    ·rw [if_pos hwt] at hw ⊢
     exact hw.imp (Oper.wp_mono hnext) (fun h=>h)
    ·rw [if_neg hwt] at hw ⊢
     exact hnext _ _ hw
 ·intro d a' w' hall hbig hI
  rcases hI with ⟨⟨j,hj,hdj⟩,_⟩ | ⟨m,hm',hw⟩
  ·rw [hall j (Nat.lt_of_lt_of_le hj K.le)] at hdj;cases hdj
  ·have h1:ops.size≤n+m:=by
    by_cases h:ops.size≤n+m
    ·exact h
    ·have:=(hm' (n+m)).1 (hall _ (by omega));omega
   rw [List.drop_eq_nil_of_le (by simpa using h1)] at hw
   exact hw
def valAt (ops:Array Oper) (a:Act) (j:Nat):Value:=match ops[j]? with
 | some o=>(match o.dst with | some t=>a.tmps.getD t undef | none=>undef)
 | none=>undef
theorem valAt_of {a:Act} {j t:Nat} {o:Oper} (h:ops[j]? = some o) (ht:o.dst=some t):valAt ops a j=a.tmps.getD t undef:=by simp [valAt,h,ht]
theorem wp_region_growL {id:Nat} {a:Act} {w:World} (n N:Nat) (hm:P.follows .mixedOrders=true) (hB:growB ops n N=true) (hN:a.tmps.size=N)
 (V:Nat→Value→Nat→Nat→World→Prop) (L:Nat→(Nat→Value)→Prop)
 (hL:∀ i o f f',ops[i]? = some o→L i f→f' i=f i→(∀ e∈o.after,Region.binds .any e=true→f' e.on=f e.on)→L i f')
 (stab:∀ i v s t w' w'',V i v s t w'→Below w'.heap.size w' w''→V i v s t w'')
 (hs:∀ i o,i<n→ops[i]? = some o→∀ a' w',Below w.heap.size w w'→GrowFr ops n a a' →
  (∀ e∈o.after,Region.binds .any e=true→∀ o' d,ops[e.on]? = some o'→o'.dst=some d→∃ s t,V e.on (a'.tmps.getD d undef) s t w')→o.wp P a' w' (fun a'' w''=>∃ v s t,a''=a'.put o.dst v∧Below w'.heap.size w' w''∧w'.heap.size≤s∧t≤w''.heap.size∧V i v s t w''∧∀ f:Nat→Value,f i=v→(∀ e∈o.after,Region.binds .any e=true→f e.on=valAt ops a' e.on)→L i f) Q)
 (he:∀ a' w' (s t:Nat→Nat),Below w.heap.size w w'→GrowFr ops n a a'→(∀ i o d,i<n→ops[i]? = some o→o.dst=some d→w.heap.size≤s i∧t i≤w'.heap.size∧V i (a'.tmps.getD d undef) (s i) (t i) w') →
  (∀ i j,i<n→j<n→i ≠ j→t i≤s j∨t j≤s i)→(∀ i,i<n→L i (valAt ops a'))→wpList P ops Q (ops.toList.drop n) a' w') :
 (Code.region id ops true).wp P Q a w:=by
 have K:=growChk hB
 let G:(Nat→Bool)→Act→World→Prop:=fun d a' w'=>∃ s t:Nat→Nat,Below w.heap.size w w'∧GrowFr ops n a a'∧(∀ i o dd,i<n→d i=true→ops[i]? = some o→o.dst=some dd→w.heap.size≤s i∧t i≤w'.heap.size∧V i (a'.tmps.getD dd undef) (s i) (t i) w') ∧
  (∀ i j,i<n→j<n→d i=true→d j=true→i ≠ j→t i≤s j∨t j≤s i)∧∀ i,i<n→d i=true→L i (valAt ops a')
 refine wp_region_inv hm (fun d a' w'=>((∃ j,j<n∧d j=false)∧(∀ j,n≤j→d j=false)∧G d a' w')∨∃ m,(∀ j,d j=true↔j<n+m)∧wpList P ops Q (ops.toList.drop (n+m)) a' w') K.back ?_ ?_ ?_
 ·exact .inl ⟨⟨0,K.pos,rfl⟩,fun _ _=>rfl,fun _=>0,fun _=>0,⟨rfl,rfl,rfl,Nat.le_refl _,fun _ _=>rfl⟩,⟨rfl,rfl,fun _ _=>rfl⟩,⟨fun i o t _ h=>(by cases h),fun i j _ _ h=>(by cases h),fun i _ h=>(by cases h)⟩⟩
 ·intro d a' w' i o ho hd hdeps hcl hbig hI
  have hi:=(Array.getElem?_eq_some_iff.1 ho).1
  unfold wpOp
  rw [ho]
  dsimp only
  by_cases hin:i<n
  ·rcases hI with ⟨_,htl,s,t,hC',hF,hV,hD,hLL⟩ | ⟨m,hm',_⟩
   ·obtain ⟨ti,hti,htN⟩:=K.dst i o hin ho
    rw [if_pos (by simp [Region.wanted,K.guard i o hin ho])]
    refine .inl (Oper.wp_mono ?_ (hs i o hin ho a' w' hC' hF (fun e he' hb o' dd ho' ht=>⟨_,_,(hV e.on o' dd (Nat.lt_trans (K.back i o ho e he' hb) hin) (hdeps e he' hb) ho' ht).2.2⟩)))
    rintro a'' w'' ⟨v,s0,t0,rfl,hR,hs0,ht0,hVi,hLi⟩
    rw [hti]
    have hF':GrowFr ops n a (a'.put (some ti) v):=by
     refine ⟨hF.1,by simp [Act.put,hF.2.1],fun t ht=>?_⟩
     rw [getD_put_other (by rintro rfl;exact ht i o hin ho hti)]
     exact hF.2.2 t ht
    have hC'':Below w.heap.size w w'':=hC'.trans (hR.mono hC'.size)
    have hV':∀ k o' dd,k<n→(if k=i then true else d k)=true→ops[k]? = some o'→o'.dst=some dd→w.heap.size≤(if k=i then s0 else s k)∧(if k=i then t0 else t k)≤w''.heap.size∧V k ((a'.put (some ti) v).tmps.getD dd undef) (if k=i then s0 else s k) (if k=i then t0 else t k) w'':=by
     intro k o' dd hk hdk ho' ht
     by_cases e:k=i
     ·subst e
      rw [ho] at ho';cases ho'
      rw [hti] at ht;cases ht
      simp only [if_true]
      rw [getD_put_same (by rw [hF.2.1,hN];exact htN)];exact ⟨Nat.le_trans hC'.size hs0,ht0,hVi⟩
     ·rw [if_neg e] at hdk
      simp only [if_neg e]
      rw [getD_put_other (by rintro rfl;exact K.apart i k o o' ti hin hk (fun h=>e h.symm) ho ho' hti ht)]
      obtain ⟨q1,q2,q3⟩:=hV k o' dd hk hdk ho' ht
      exact ⟨q1,Nat.le_trans q2 hR.size,stab _ _ _ _ _ _ q3 hR⟩
    have hD':∀ k l,k<n→l<n→(if k=i then true else d k)=true→(if l=i then true else d l)=true→k ≠ l→(if k=i then t0 else t k)≤(if l=i then s0 else s l)∨(if l=i then t0 else t l)≤(if k=i then s0 else s k):=by
     intro k l hk hl hdk hdl hkl
     by_cases e:k=i
     ·have e':l ≠ i:=fun h=>hkl (e.trans h.symm)
      simp only [if_pos e,if_neg e'] at hdl ⊢
      have hsz:l<ops.size:=Nat.lt_of_lt_of_le hl K.le
      obtain ⟨dd,hdd,_⟩:=K.dst l ops[l] hl (by simp [hsz])
      have:=(hV l ops[l] dd hl hdl (by simp [hsz]) hdd).2.1
      omega
     ·by_cases e':l=i
      ·simp only [if_pos e',if_neg e] at hdk ⊢
       have hsz:k<ops.size:=Nat.lt_of_lt_of_le hk K.le
       obtain ⟨dd,hdd,_⟩:=K.dst k ops[k] hk (by simp [hsz])
       have:=(hV k ops[k] dd hk hdk (by simp [hsz]) hdd).2.1
       omega
      ·simp only [if_neg e,if_neg e'] at hdk hdl ⊢
       exact hD k l hk hl hdk hdl hkl
    have hvo:∀ k,k<n→k ≠ i→valAt ops (a'.put (some ti) v) k=valAt ops a' k:=by
     intro k hk e
     have hsz:k<ops.size:=Nat.lt_of_lt_of_le hk K.le
     obtain ⟨dd,hdd,_⟩:=K.dst k ops[k] hk (by simp [hsz])
     rw [valAt_of (o:=ops[k]) (by simp [hsz]) hdd,valAt_of (o:=ops[k]) (by simp [hsz]) hdd,getD_put_other (by rintro rfl;exact K.apart i k o ops[k] ti hin hk (fun h=>e h.symm) ho (by simp [hsz]) hti hdd)]
    have hvi:valAt ops (a'.put (some ti) v) i=v:=by rw [valAt_of ho hti,getD_put_same (by rw [hF.2.1,hN];exact htN)]
    have hL':∀ k,k<n→(if k=i then true else d k)=true→L k (valAt ops (a'.put (some ti) v)):=by
     intro k hk hdk
     by_cases e:k=i
     ·subst e
      exact hLi _ hvi (fun e he' hb=>hvo _ (Nat.lt_trans (K.back k o ho e he' hb) hk) (fun h=>by have:=K.back k o ho e he' hb;omega))
     ·rw [if_neg e] at hdk
      have hsz:k<ops.size:=Nat.lt_of_lt_of_le hk K.le
      refine hL k ops[k] _ _ (by simp [hsz]) (hLL k hk hdk) (hvo k hk e) (fun e' he' hb=>hvo _ (Nat.lt_trans (K.back k ops[k] (by simp [hsz]) e' he' hb) hk) (fun h=>?_))
      have:=hcl k ops[k] (by simp [hsz]) hdk e' he' hb
      rw [h,hd] at this;cases this
    by_cases hall:∃ j,j<n∧(if j=i then true else d j)=false
    ·exact .inl ⟨hall,fun j hj=>by rw [if_neg (by omega)];exact htl j hj,_,_,hC'',hF',hV',hD',hL'⟩
    ·have hyes:∀ k,k<n→(if k=i then true else d k)=true:=fun k hk=>by
      cases hdk:(if k=i then true else d k) with
      | true=>rfl
      | false=>exact absurd ⟨k,hk,hdk⟩ hall
     refine .inr ⟨0,fun j=>⟨fun hj=>?_,fun hj=>hyes j (by omega)⟩,he _ _ _ _ hC'' hF' (fun k o' dd hk ho' ht=>hV' k o' dd hk (hyes k hk) ho' ht) (fun k l hk hl hkl=>hD' k l hk hl (hyes k hk) (hyes l hl) hkl) (fun k hk=>hL' k hk (hyes k hk))⟩
     by_cases hjn:j<n
     ·omega
     ·rw [if_neg (by omega),htl j (by omega)] at hj;cases hj
   ·have:=(hm' i).2 (by omega)
    rw [hd] at this;cases this
  ·have hdone:∀ j,j<i→d j=true:=fun j hj=>reachF_done hcl _ i j (fun o' ho'=>by rw [ho] at ho';cases ho';exact hdeps) (K.tail i j (by omega) hi hj)
   rcases hI with ⟨⟨j,hj,hdj⟩,_⟩ | ⟨m,hm',hw⟩
   ·rw [hdone j (by omega)] at hdj;cases hdj
   ·have him:i=n+m:=by
     have h1:¬ i<n+m:=fun h=>by rw [(hm' i).2 h] at hd;cases hd
     have h2:¬ n+m<i:=fun h=>by have:=(hm' (n+m)).1 (hdone _ h);omega
     omega
    subst him
    have hdrop:ops.toList.drop (n+m)=o :: ops.toList.drop (n+m+1):=by
     rw [List.drop_eq_getElem_cons (by simpa using hi)]
     congr 1
     have:=(Array.getElem?_eq_some_iff.1 ho).2
     simpa using this
    rw [hdrop] at hw
    unfold wpList at hw
    have hnext:∀ a'' w'',wpList P ops Q (ops.toList.drop (n+m+1)) a'' w''→((∃ j,j<n∧(if j=n+m then true else d j)=false)∧(∀ j,n≤j→(if j=n+m then true else d j)=false)∧G (fun j=>if j=n+m then true else d j) a'' w'')∨∃ m',(∀ j,(if j=n+m then true else d j)=true↔j<n+m')∧wpList P ops Q (ops.toList.drop (n+m')) a'' w'':=by
     intro a'' w'' h
     refine .inr ⟨m+1,fun j=>?_,by rw [← Nat.add_assoc];exact h⟩
     by_cases e:j=n+m
     ·rw [if_pos e];simp;omega
     ·rw [if_neg e,hm' j];omega
    by_cases hwt:Region.wanted o (yielded ops a'.tmps)=true
    ·rw [if_pos hwt] at hw ⊢
     exact hw.imp (Oper.wp_mono hnext) (fun h=>h)
    ·rw [if_neg hwt] at hw ⊢
     exact hnext _ _ hw
 ·intro d a' w' hall hbig hI
  rcases hI with ⟨⟨j,hj,hdj⟩,_⟩ | ⟨m,hm',hw⟩
  ·rw [hall j (Nat.lt_of_lt_of_le hj K.le)] at hdj;cases hdj
  ·have h1:ops.size≤n+m:=by
    by_cases h:ops.size≤n+m
    ·exact h
    ·have:=(hm' (n+m)).1 (hall _ (by omega));omega
   rw [List.drop_eq_nil_of_le (by simpa using h1)] at hw
   exact hw
theorem evTmp {a':Act} {t:Nat} {v:Value} (h:a'.eval (.tmp t)=v):a'.tmps[t]?.getD undef=v:=by rw [← h];simp [Act.eval,Array.getD_eq_getD_getElem?]
def notDstB (ops:Array Oper) (n t:Nat):Bool:=(List.range n).all fun i=>match ops[i]? with | some o=>decide (o.dst ≠ some t) | none=>true
theorem GrowFr.at {n:Nat} {a a':Act} (h:GrowFr ops n a a') (t:Nat) (hb:notDstB ops n t=true):a'.tmps.getD t undef=a.tmps.getD t undef:=by
 refine h.2.2 t fun i o hi ho=>?_
 simp only [notDstB,List.all_eq_true,List.mem_range] at hb
 have:=hb i hi
 rw [ho] at this
 simpa using this
theorem GrowFr.ev {n:Nat} {a a':Act} (h:GrowFr ops n a a') (t:Nat) (hb:notDstB ops n t=true) {v:Value} (hv:a.tmps.getD t undef=v):a'.eval (.tmp t)=v:=by
 rw [← hv];exact h.at t hb
theorem stepG {o:Oper} {a':Act} {w' w'':World} {v:Value} {s t i:Nat} {V:Nat→Value→Nat→Nat→World→Prop} (hr:(execOp a'.eval o).run P w'=.ok (.value v) w'') (hb:Below w'.heap.size w' w'') (h1:w'.heap.size≤s) (h2:t≤w''.heap.size) (hv:V i v s t w'') :
 o.wp P a' w' (fun a'' w''=>∃ v s t,a''=a'.put o.dst v∧Below w'.heap.size w' w''∧w'.heap.size≤s∧t≤w''.heap.size∧V i v s t w'') Q:=by
 unfold Oper.wp
 rw [hr]
 exact ⟨v,s,t,rfl,hb,h1,h2,hv⟩
theorem stepGL {o:Oper} {a':Act} {w' w'':World} {v:Value} {s t i:Nat} {V:Nat→Value→Nat→Nat→World→Prop} {H:Value→Prop} (hr:(execOp a'.eval o).run P w'=.ok (.value v) w'') (hb:Below w'.heap.size w' w'') (h1:w'.heap.size≤s) (h2:t≤w''.heap.size) (hv:V i v s t w'') (hH:H v) :
 o.wp P a' w' (fun a'' w''=>∃ v s t,a''=a'.put o.dst v∧Below w'.heap.size w' w''∧w'.heap.size≤s∧t≤w''.heap.size∧V i v s t w''∧H v) Q:=by
 unfold Oper.wp
 rw [hr]
 exact ⟨v,s,t,rfl,hb,h1,h2,hv,hH⟩
theorem stepGLC {o:Oper} {a':Act} {w':World} {i:Nat} {V:Nat→Value→Nat→Nat→World→Prop} {H:Value→Prop} {f:FuncId} {args:Array Value} (hr:(execOp a'.eval o).run P w'=.ok (.enter f args) w')
 (hc:Calls P f args w' fun e w''=>∃ v s t,e=.returned v∧Below w'.heap.size w' w''∧w'.heap.size≤s∧t≤w''.heap.size∧V i v s t w''∧H v) :
 o.wp P a' w' (fun a'' w''=>∃ v s t,a''=a'.put o.dst v∧Below w'.heap.size w' w''∧w'.heap.size≤s∧t≤w''.heap.size∧V i v s t w''∧H v) Q:=by
 unfold Oper.wp
 rw [hr]
 refine hc.mono ?_
 rintro e w'' ⟨v,s,t,rfl,h⟩
 exact ⟨v,s,t,rfl,h⟩
end
end Go.Proofs.Ytfobmfngbfbfdaa
namespace Go.Proofs.Ytfobmfngbfbfdaa
set_option linter.unusedSimpArgs false
set_option linter.unusedVariables false
open Go.RowKit
def pDat {α:Type} (Q:RowP α) (n:Nat) (x:α):PropV:=fun v s t w'=>t≤w'.heap.size∧HeadI w' s t∧∃ a' c',v=.slice a' n c'∧Q s t w' a' n c' x
theorem pDat_st {α:Type} {Q:RowP α} (ok:RowPOK Q) (n:Nat) (x:α):StableP (pDat Q n x) :=
 fun _ _ _ _ _ ⟨h0,hd,a',c',h1,h2⟩ hb=>⟨Nat.le_trans h0 hb.size,hd.keep (Keeps.of_below hb h0) (Nat.le_refl _) (Nat.le_refl _),a',c',h1,ok.keep h2 (Keeps.of_below hb h0)⟩
theorem run_append_empty {t e k bytes:Nat} (ht:ElemF t e k bytes) {lo hi:Nat} {w:World} (ty:TypeId) (g:Nat) (hg:w.heap[g]? = some (.cells #[] e (0,0)))
 (ao:Option Addr) (m c:Nat) (us:List Value) (hI:FlatA k lo hi w ao m c us) (hb:m≤16777216) :
 ∃ a' c' w',(Builtin.append_ #[t,t] ty #[.slice (some ⟨g,0,none⟩) 0 0,.slice ao m c]).run Try.prog w=.ok (.slice a' m c') w'∧Below w.heap.size w w'∧(0<m→OwnF e k w.heap.size w' a' m c' us)∧m≤c'∧c'≤maxLen∧(a'=none→c'=0):=by
 obtain ⟨i0,z,hi0,hz0,hz1,hz2,hz3⟩:=ht.info
 have hgl:g<w.heap.size:=(Array.getElem?_eq_some_iff.1 hg).1
 have hown:OwnF e k g w (some ⟨g,0,none⟩) 0 0 []:=ownF_empty e k w g g (Nat.le_refl _) hg
 by_cases hm:m=0
 ·subst hm
  have hus:us=[]:=List.eq_nil_of_length_eq_zero (by have:=hI.len;simpa using this)
  subst hus
  cases ao with
  | none =>
   have hc0:=hI.2.2.2.2.2 rfl
   subst hc0
   exact ⟨_,_,w,run_append_owned_none (P:=Try.prog) (w:=w) g t ty e i0 k ht.under hi0 _ 0 _ hown.1,Below.refl _ _,fun h=>by omega,Nat.le_refl _,by simp [maxLen],fun h=>(by cases h)⟩
  | some ad =>
   have hr:=run_append_room (P:=Try.prog) w t ty e i0 ht.under hi0 g 0 0 #[] hg ad 0 c [] (by simp) (fun j u hj=>by simp at hj) (fun u hu=>(by cases hu)) (by omega) (by simp)
   refine ⟨_,_,_,hr,⟨rfl,rfl,rfl,by simp,fun j hj=>?_⟩,fun h=>by omega,Nat.le_refl _,by simp [maxLen],fun h=>(by cases h)⟩
   by_cases e':j=g
   ·subst e'
    rw [setRow_heap w j #[] _ e _ hg,hg];simp
   ·exact setRow_other w g j _ e'
 ·cases ao with
  | none=>exact absurd (by have h1:=hI.2.2.2.2.2 rfl;have h2:=hI.2.1;omega) hm
  | some ad =>
   obtain ⟨a1,c1,w1,hr1,ho1,_⟩:=run_append_flat ht ty g _ 0 0 [] hown (some ad) m c us hI (by omega) (by omega)
   have hr2:=run_append_grow (P:=Try.prog) w t ty e i0 z ht.under hi0 hz0 ⟨g,0,none⟩ 0 0 [] (by simp) (fun j v hj=>by simp at hj) ad m c us (by rw [hz1];exact hI.len) (fun j u hj=>by
    obtain ⟨b,off,hab,_,_,hcell⟩:=hI.open (by omega)
    obtain rfl:ad=⟨b,off,none⟩:=by simpa using hab
    rw [Addr.add_lit];exact hcell j u hj) (by omega) (by omega) (by
     rw [Nat.zero_add,nextslicecap_zero (by omega)]
     have h1:=ht.small
     have h2:m*i0.bytes≤16777216*4096:=by rw [hz2];exact Nat.mul_le_mul hb h1
     omega)
   rw [hr1] at hr2
   simp only [Result.ok.injEq,Value.slice.injEq] at hr2
   obtain ⟨⟨ha,_,hc⟩,hw⟩:=hr2
   rw [List.nil_append,Nat.zero_add] at ho1
   rw [Nat.zero_add] at hr1
   refine ⟨a1,c1,w1,hr1,?_,fun _=>?_,ho1.flat.2.1,ho1.flat.2.2.1,ho1.flat.2.2.2.2.2⟩
   ·rw [hw]
    exact (⟨rfl,rfl,rfl,Nat.le_refl _,fun _ _=>rfl⟩:Below w.heap.size w w.drew).alloc (Nat.le_refl _) _
   ·refine ⟨⟨ho1.1.1,?_⟩,ho1.2⟩
    rcases ho1.1.2 with ⟨h,_⟩ | ⟨g',cap,cur,hv,_,rest⟩
    ·simp only [Value.slice.injEq] at h;omega
    ·have hv':=hv
     simp only [Value.slice.injEq] at hv
     rw [ha] at hv
     simp only [Option.some.injEq,Addr.mk.injEq,and_true] at hv
     exact .inr ⟨g',cap,cur,hv',by omega,rest⟩
end Go.Proofs.Ytfobmfngbfbfdaa
