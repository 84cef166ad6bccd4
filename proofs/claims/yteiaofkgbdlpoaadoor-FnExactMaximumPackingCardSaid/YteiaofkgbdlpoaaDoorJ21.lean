/- Lemmas for the proof of FnExactMaximumPacking, part 21 of 26: no condition of their own. -/
import Derived.Test.YteiaofkgbdlpoaaDoorJ1
import Derived.Deep.RegionLaw
import Derived.Deep.AppendLies
import Derived.Test.YteiaofkgbdlpoaaDoorJ2
import Derived.Test.YteiaofkgbdlpoaaDoorJ20
import Derived.Deep.Slices
import Derived.Test.YteiaofkgbdlpoaaDoorJ19
import Derived.Test.YteiaofkgbdlpoaaDoorJ8
import Derived.Deep.CutBlock
import Derived.Deep.DeepCutAuto
namespace Go.Proofs.YteiaofkgbdlpoaaDoor
set_option linter.unusedSimpArgs false
set_option linter.unusedVariables false
open Go.RowKit
def ValsA (lo hi:Nat) (w:World) (a:Option Addr) (n c:Nat) (vs:List Value):Prop :=
 vs.length=n∧n≤c∧c≤maxLen∧(∀ u∈vs,u.oneCell'=true)∧(0<n→∃ b off,a=some ⟨b,off,none⟩∧lo≤b∧b<hi∧∀ i u,vs[i]? = some u→w.cell? ⟨b,off+i,none⟩=some u)∧(a=none→c=0)
section
variable {lo hi:Nat} {w w':World} {a:Option Addr} {n c:Nat} {vs:List Value}
theorem ValsA.len (h:ValsA lo hi w a n c vs):vs.length=n:=h.1
theorem ValsA.small (h:ValsA lo hi w a n c vs):n≤9223372036854775807:=by
 have h1:=h.2.1;have h2:=h.2.2.1;unfold maxLen at h2;omega
theorem ValsA.keep (h:ValsA lo hi w a n c vs) (hk:Keeps lo hi w w'):ValsA lo hi w' a n c vs:=by
 obtain ⟨h1,h2,h3,h4,h5,h6⟩:=h
 refine ⟨h1,h2,h3,h4,fun hn=>?_,h6⟩
 obtain ⟨b,off,ha,hl,hb,hc⟩:=h5 hn
 exact ⟨b,off,ha,hl,hb,fun i u hu=>by rw [World.cell?_of_block (w:=w) (hk b hl hb)];exact hc i u hu⟩
theorem ValsA.wide {lo' hi':Nat} (h:ValsA lo hi w a n c vs) (h1:lo'≤lo) (h2:hi≤hi'):ValsA lo' hi' w a n c vs:=by
 obtain ⟨g1,g2,g3,g4,g5,g6⟩:=h
 refine ⟨g1,g2,g3,g4,fun hn=>?_,g6⟩
 obtain ⟨b,off,ha,hl,hb,hc⟩:=g5 hn
 exact ⟨b,off,ha,by omega,by omega,hc⟩
theorem ValsA.drewN (h:ValsA lo hi w a n c vs) (k:Nat):ValsA lo hi (w.drewN k) a n c vs:=h
theorem ValsA.open (h:ValsA lo hi w a n c vs) (hn:0<n):∃ b off,a=some ⟨b,off,none⟩∧lo≤b∧b<hi∧∀ i u,vs[i]? = some u→w.cell? ⟨b,off+i,none⟩=some u:=h.2.2.2.2.1 hn
end
def OwnV (e:TypeId) (base:Nat) (w:World) (a:Option Addr) (n c:Nat) (vs:List Value):Prop:=w.ownsRow base e 1 (.slice a n c) n vs∧∀ u∈vs,u.oneCell'=true
theorem OwnV.len {e:TypeId} {base:Nat} {w:World} {a:Option Addr} {n c:Nat} {vs:List Value} (h:OwnV e base w a n c vs):vs.length=n:=by
 have:=h.1.1;omega
theorem OwnV.vals {e:TypeId} {base:Nat} {w:World} {a:Option Addr} {n c:Nat} {vs:List Value} (h:OwnV e base w a n c vs):ValsA base w.heap.size w a n c vs:=by
 have hlen:=h.len
 obtain ⟨ho,h1c⟩:=h
 have ho':=ho
 obtain ⟨h1,h2⟩:=ho
 rcases h2 with ⟨h2,h3⟩ | ⟨g,cap,cur,hv,hb,hg,hnc,hcm,hcs,htake⟩
 ·simp only [Value.slice.injEq] at h2
  obtain ⟨rfl,rfl,rfl⟩:=h2
  exact ⟨hlen,Nat.zero_le _,by simp [maxLen],h1c,fun h=>by omega,fun _=>rfl⟩
 ·simp only [Value.slice.injEq] at hv
  obtain ⟨rfl,_,rfl⟩:=hv
  refine ⟨hlen,hnc,hcm,h1c,fun _=>⟨g,0,rfl,hb,(Array.getElem?_eq_some_iff.1 hg).1,fun i u hu=>?_⟩,fun h=>(by cases h)⟩
  have h5:=ho'.cells (g:=g) rfl i u hu
  rwa [Addr.add_lit] at h5
theorem OwnV.low {e:TypeId} {base base':Nat} {w:World} {a:Option Addr} {n c:Nat} {vs:List Value} (h:OwnV e base w a n c vs) (hb:base'≤base):OwnV e base' w a n c vs:=by
 obtain ⟨⟨h1,h2⟩,h64⟩:=h
 refine ⟨⟨h1,?_⟩,h64⟩
 rcases h2 with h2 | ⟨g,cap,cur,hv,hb',rest⟩
 ·exact .inl h2
 ·exact .inr ⟨g,cap,cur,hv,by omega,rest⟩
theorem OwnV.keep {e:TypeId} {base:Nat} {w w':World} {a:Option Addr} {n c:Nat} {vs:List Value} (h:OwnV e base w a n c vs) (hk:Keeps base w.heap.size w w'):OwnV e base w' a n c vs:=by
 obtain ⟨⟨h1,h2⟩,h64⟩:=h
 refine ⟨⟨h1,?_⟩,h64⟩
 rcases h2 with h2 | ⟨g,cap,cur,hv,hb,hg,rest⟩
 ·exact .inl h2
 ·exact .inr ⟨g,cap,cur,hv,hb,by rw [hk g hb (Array.getElem?_eq_some_iff.1 hg).1];exact hg,rest⟩
theorem OwnV.alloc {e:TypeId} {base:Nat} {w:World} {a:Option Addr} {n c:Nat} {vs:List Value} (h:OwnV e base w a n c vs) (o:Obj):OwnV e base (w.alloc o) a n c vs:=⟨h.1.alloc o,h.2⟩
theorem OwnV.drewN {e:TypeId} {base:Nat} {w:World} {a:Option Addr} {n c:Nat} {vs:List Value} (h:OwnV e base w a n c vs) (k:Nat):OwnV e base (w.drewN k) a n c vs:=h
structure Elem (t e:TypeId) (bytes:Nat):Prop where
 under:Tryd.prog.underlying t=some (.slice e)
 info:∃ i z,Tryd.prog.info? e=some i∧i.zero=some z∧i.size=1∧i.bytes=bytes∧z.cells.size=1
 small:bytes≤4096
end Go.Proofs.YteiaofkgbdlpoaaDoor
namespace Go.Proofs.YteiaofkgbdlpoaaDoor
set_option linter.unusedSimpArgs false
set_option linter.unusedVariables false
open Go.RowKit
abbrev RowP (α:Type):=Nat→Nat→World→Option Addr→Nat→Nat→α→Prop
structure RowPOK {α:Type} (Q:RowP α):Prop where
 keep:∀ {lo hi w w' a n c x},Q lo hi w a n c x→Keeps lo hi w w'→Q lo hi w' a n c x
 wide:∀ {lo hi lo' hi' w a n c x},Q lo hi w a n c x→lo'≤lo→hi≤hi'→Q lo' hi' w a n c x
def HeadI (w:World) (s t:Nat):Prop:=s<t→t=s+1∧∃ z:Int,w.cell? ⟨s,0,none⟩=some (.int .i64 z)
theorem HeadI.keep {w w':World} {s t lo hi:Nat} (h:HeadI w s t) (hk:Keeps lo hi w w') (h1:lo≤s) (h2:t≤hi):HeadI w' s t:=fun hlt=>by
 obtain ⟨g1,z,g2⟩:=h hlt
 exact ⟨g1,z,by rw [World.cell?_of_block (w:=w) (hk s h1 (by omega))];exact g2⟩
def SepV {α:Type} (Q:RowP α) (lo hi:Nat) (w:World) (vs:List Value) (xss:List α):Prop :=
 vs.length=xss.length∧∃ s t:Nat→Nat,(∀ i,i<xss.length→lo≤s i∧t i≤hi∧HeadI w (s i) (t i)∧∃ ra rn rc x,xss[i]? = some x∧vs[i]? = some (.slice ra rn rc)∧Q (s i) (t i) w ra rn rc x) ∧
  ∀ i j,i<xss.length→j<xss.length→i ≠ j→t i≤s j∨t j≤s i
section
variable {α:Type} {Q:RowP α} {lo hi lo' hi':Nat} {w w':World} {vs:List Value} {xss:List α}
theorem SepV.nil (Q:RowP α) (lo hi:Nat) (w:World):SepV Q lo hi w [] []:=⟨rfl,fun _=>0,fun _=>0,fun i hi=>by simp at hi,fun i j hi=>by simp at hi⟩
theorem SepV.keep (ok:RowPOK Q) (h:SepV Q lo hi w vs xss) (hk:Keeps lo hi w w'):SepV Q lo hi w' vs xss:=by
 obtain ⟨h1,s,t,h2,h3⟩:=h
 refine ⟨h1,s,t,fun i hi=>?_,h3⟩
 obtain ⟨g1,g2,g0,ra,rn,rc,x,g3,g4,g5⟩:=h2 i hi
 exact ⟨g1,g2,g0.keep hk g1 g2,ra,rn,rc,x,g3,g4,ok.keep g5 (hk.mono g1 g2)⟩
theorem SepV.wide (h:SepV Q lo hi w vs xss) (hl:lo'≤lo) (hh:hi≤hi'):SepV Q lo' hi' w vs xss:=by
 obtain ⟨h1,s,t,h2,h3⟩:=h
 refine ⟨h1,s,t,fun i hi=>?_,h3⟩
 obtain ⟨g1,g2,g⟩:=h2 i hi
 exact ⟨by omega,by omega,g⟩
theorem SepV.snoc (h:SepV Q lo hi w vs xss) {s' t':Nat} {ra:Option Addr} {rn rc:Nat} {x:α} (hx:Q s' t' w ra rn rc x) (hd:HeadI w s' t') (hl:lo≤s') (hs:hi≤s') (ht:t'≤hi') (hh:hi≤hi'):SepV Q lo hi' w (vs ++ [.slice ra rn rc]) (xss ++ [x]):=by
 obtain ⟨h1,s,t,h2,h3⟩:=h
 refine ⟨by simp [h1],fun i=>if i=xss.length then s' else s i,fun i=>if i=xss.length then t' else t i,fun i hi=>?_,fun i j hi hj hij=>?_⟩
 ·by_cases e:i=xss.length
  ·subst e
   simp only [if_true]
   exact ⟨hl,ht,hd,ra,rn,rc,x,by simp,by rw [← h1];simp,hx⟩
  ·simp only [if_neg e]
   have hi':i<xss.length:=by simp at hi;omega
   obtain ⟨g1,g2,g0,ra',rn',rc',y,g3,g4,g5⟩:=h2 i hi'
   exact ⟨g1,by omega,g0,ra',rn',rc',y,by rw [List.getElem?_append_left hi'];exact g3,by rw [List.getElem?_append_left (by omega)];exact g4,g5⟩
 ·simp at hi hj
  by_cases e:i=xss.length
  ·have e':j ≠ xss.length:=by omega
   simp only [if_pos e,if_neg e']
   have:=h2 j (by omega)
   omega
  ·by_cases e':j=xss.length
   ·simp only [if_neg e,if_pos e']
    have:=h2 i (by omega)
    omega
   ·simp only [if_neg e,if_neg e']
    exact h3 i j (by omega) (by omega) hij
theorem SepV.one (h:SepV Q lo hi w vs xss):∀ u∈vs,u.oneCell'=true:=by
 obtain ⟨h1,s,t,h2,_⟩:=h
 intro u hu
 obtain ⟨i,hi,rfl⟩:=List.getElem_of_mem hu
 obtain ⟨_,_,_,ra,rn,rc,x,_,g4,_⟩:=h2 i (by omega)
 rw [List.getElem?_eq_getElem hi] at g4
 rw [Option.some.inj g4];rfl
theorem SepV.grown (ok:RowPOK Q) {e:TypeId} {base:Nat} {a:Option Addr} {n c:Nat} (h:SepV Q lo hi w vs xss) (ho:OwnV e base w a n c vs) (hg:w.grownBy w' (Value.slice a n c).ownBlock) (hh:hi≤w.heap.size):SepV Q lo hi w' vs xss:=by
 obtain ⟨h1,s,t,h2,h3⟩:=h
 have hlen:=ho.len
 have key:∀ i,i<xss.length→Keeps (s i) (t i) w w':=by
  intro i hi k hk1 hk2
  obtain ⟨g1,g2,g0,_⟩:=h2 i hi
  obtain ⟨ht,z,hz⟩:=g0 (by omega)
  obtain rfl:k=s i:=by omega
  refine hg.block _ (by omega) ?_
  intro e'
  have hn:0<n:=by omega
  obtain ⟨b,off,hb,_,_,hc⟩:=ho.vals.open hn
  have h0:=ho.1.2
  rcases h0 with ⟨h0,_⟩ | ⟨g,cap,cur,hv,_⟩
  ·simp only [Value.slice.injEq] at h0;omega
  ·simp only [Value.slice.injEq] at hv
   obtain ⟨rfl,_,rfl⟩:=hv
   simp only [Option.some.injEq,Addr.mk.injEq,and_true] at hb
   obtain ⟨rfl,rfl⟩:=hb
   simp only [Value.ownBlock,Option.some.injEq] at e'
   obtain ⟨_,_,_,ra,rn,rc,x,_,f4,_⟩:=h2 0 (by omega)
   have:=hc 0 _ f4
   rw [← e',Nat.zero_add,hz] at this
   cases this
 refine ⟨h1,s,t,fun i hi=>?_,h3⟩
 obtain ⟨g1,g2,g0,ra,rn,rc,x,g3,g4,g5⟩:=h2 i hi
 exact ⟨g1,g2,g0.keep (key i hi) (Nat.le_refl _) (Nat.le_refl _),ra,rn,rc,x,g3,g4,ok.keep g5 (key i hi)⟩
end
def SepA {α:Type} (Q:RowP α) (lo hi:Nat) (w:World) (a:Option Addr) (n c:Nat) (xss:List α):Prop :=
 xss.length=n∧n≤c∧c≤maxLen∧(0<n→∃ b off,a=some ⟨b,off,none⟩∧lo≤b∧b<hi∧∃ vs,SepV Q lo hi w vs xss∧∀ i u,vs[i]? = some u→w.cell? ⟨b,off+i,none⟩=some u∧w.frozen? ⟨b,off+i,none⟩=false)∧(a=none→c=0)
section
variable {α:Type} {Q:RowP α} {lo hi lo' hi':Nat} {w w':World} {a:Option Addr} {n c:Nat} {xss:List α}
theorem SepA.len (h:SepA Q lo hi w a n c xss):xss.length=n:=h.1
theorem SepA.small (h:SepA Q lo hi w a n c xss):n≤9223372036854775807:=by
 have h1:=h.2.1;have h2:=h.2.2.1;unfold maxLen at h2;omega
theorem SepA.keep (ok:RowPOK Q) (h:SepA Q lo hi w a n c xss) (hk:Keeps lo hi w w'):SepA Q lo hi w' a n c xss:=by
 obtain ⟨h1,h2,h3,h4,h5⟩:=h
 refine ⟨h1,h2,h3,fun hn=>?_,h5⟩
 obtain ⟨b,off,ha,hl,hb,vs,hv,hc⟩:=h4 hn
 refine ⟨b,off,ha,hl,hb,vs,hv.keep ok hk,fun i u hu=>?_⟩
 rw [World.cell?_of_block (w:=w) (hk b hl hb),World.frozen?_of_block (w:=w) (hk b hl hb)];exact hc i u hu
theorem SepA.wide (h:SepA Q lo hi w a n c xss) (h1:lo'≤lo) (h2:hi≤hi'):SepA Q lo' hi' w a n c xss:=by
 obtain ⟨g1,g2,g3,g4,g5⟩:=h
 refine ⟨g1,g2,g3,fun hn=>?_,g5⟩
 obtain ⟨b,off,ha,hl,hb,vs,hv,hc⟩:=g4 hn
 exact ⟨b,off,ha,by omega,by omega,vs,hv.wide h1 h2,hc⟩
theorem SepA.sl {R:Rep α} (hR:∀ {lo hi w ra rn rc x},Q lo hi w ra rn rc x→R true lo hi w [.slice ra rn rc] x) (ok:RepOK R) (h:SepA Q lo hi w a n c xss):SlA 1 R true lo hi w a n c xss:=by
 obtain ⟨h1,h2,h3,h4,h5⟩:=h
 refine ⟨h1,h2,h3,fun hn=>?_,h5⟩
 obtain ⟨b,off,ha,hl,hb,vs,hv,hc⟩:=h4 hn
 refine ⟨b,off,ha,hl,hb,fun i hi=>?_⟩
 obtain ⟨_,s,t,g1,_⟩:=hv
 obtain ⟨e1,e2,_,ra,rn,rc,x,e3,e4,e5⟩:=g1 i (by omega)
 refine ⟨[.slice ra rn rc],x,rfl,e3,ok.wide (hR e5) e1 e2,fun j hj=>?_⟩
 obtain rfl:j=0:=by omega
 have:=hc i _ e4
 exact ⟨by simpa using this.1,fun _=>by simpa using this.2⟩
theorem SepA.row (ok:RowPOK Q) {b off:Nat} (h:SepA Q lo hi w (some ⟨b,off,none⟩) n c xss) {i:Nat} (hi':i<n) {x:α} (hx:xss[i]? = some x) :
 ∃ s t ra rn rc,lo≤s∧t≤hi∧w.cell? ⟨b,off+i,none⟩=some (.slice ra rn rc)∧Q s t w ra rn rc x ∧
  ∀ w' y,Marked s t w w'→Q s t w' ra rn rc y→SepA Q lo hi w' (some ⟨b,off,none⟩) n c (xss.set i y):=by
 obtain ⟨h1,h2,h3,h4,h5⟩:=h
 obtain ⟨b',off',ha,hl,hb,vs,hv,hc⟩:=h4 (by omega)
 simp only [Option.some.injEq,Addr.mk.injEq,and_true] at ha
 obtain ⟨rfl,rfl⟩:=ha
 obtain ⟨k1,s,t,g1,g2⟩:=hv
 obtain ⟨e1,e2,e0,ra,rn,rc,x',e3,e4,e5⟩:=g1 i (by omega)
 rw [hx] at e3;cases e3
 refine ⟨s i,t i,ra,rn,rc,e1,e2,(hc i _ e4).1,e5,fun w' y hm hy=>?_⟩
 refine ⟨by simpa using h1,h2,h3,fun _=>⟨b,off,rfl,hl,hb,vs,⟨by simpa using k1,s,t,fun j hj=>?_,fun j k hj hk=>by simp at hj hk;exact g2 j k hj hk⟩,fun j u hu=>?_⟩,h5⟩
 ·simp at hj
  by_cases e:j=i
  ·subst e
   refine ⟨e1,e2,?_,ra,rn,rc,y,by rw [List.getElem?_set_self (by omega)],e4,hy⟩
   intro hlt
   obtain ⟨k3,z,k4⟩:=e0 hlt
   obtain ⟨v',q1,q2⟩:=hm.cell _ _ k4
   rcases q2 with rfl | ⟨_,z',_,rfl,_⟩
   ·exact ⟨k3,z,q1⟩
   ·exact ⟨k3,z',q1⟩
  ·obtain ⟨f1,f2,f0,ra',rn',rc',z,f3,f4,f5⟩:=g1 j hj
   have hkk:=hm.keeps (lo':=s j) (hi':=t j) (by have:=g2 j i hj (by omega) e;omega)
   exact ⟨f1,f2,f0.keep hkk (Nat.le_refl _) (Nat.le_refl _),ra',rn',rc',z,by rw [List.getElem?_set_ne (by omega)];exact f3,f4,ok.keep f5 hkk⟩
 ·obtain ⟨g3,g4⟩:=hc j u hu
  have hsl:∃ ra rn rc,u=.slice ra rn rc:=by
   have hj:j<xss.length:=by rw [← k1];exact (List.getElem?_eq_some_iff.1 hu).1
   obtain ⟨_,_,_,ra',rn',rc',_,_,f4,_⟩:=g1 j hj
   rw [hu] at f4;cases f4;exact ⟨_,_,_,rfl⟩
  obtain ⟨ra',rn',rc',rfl⟩:=hsl
  obtain ⟨v',q1,q2⟩:=hm.cell _ _ g3
  refine ⟨?_,by rw [hm.frz];exact g4⟩
  rcases q2 with rfl | ⟨_,_,h,_⟩
  ·exact q1
  ·cases h
end
theorem SepA.own {α:Type} {Q:RowP α} {e:TypeId} {base:Nat} {w:World} {a:Option Addr} {n c:Nat} {vs:List Value} {xss:List α} (h:OwnV e base w a n c vs) (hv:SepV Q base w.heap.size w vs xss):SepA Q base w.heap.size w a n c xss:=by
 have hlen:=h.len
 obtain ⟨h1,h2⟩:=h.1
 rcases h2 with ⟨h2,h3⟩ | ⟨g,cap,cur,hvv,hb,hg,hnc,hcm,hcs,htake⟩
 ·simp only [Value.slice.injEq] at h2
  obtain ⟨rfl,rfl,rfl⟩:=h2
  exact ⟨by rw [← hv.1];exact hlen,Nat.le_refl _,by simp [maxLen],fun h=>by omega,fun _=>rfl⟩
 ·have ho':=h.1
  simp only [Value.slice.injEq] at hvv
  obtain ⟨rfl,_,rfl⟩:=hvv
  refine ⟨by rw [← hv.1];exact hlen,hnc,hcm,fun _=>⟨g,0,rfl,hb,(Array.getElem?_eq_some_iff.1 hg).1,vs,hv,fun i u hu=>⟨?_,?_⟩⟩,fun h=>(by cases h)⟩
  ·have h5:=ho'.cells (g:=g) rfl i u hu
   rwa [Addr.add_lit] at h5
  ·exact frozen_of_row w g (0+i) cur _ hg
theorem Own.head {base:Nat} {w:World} {a:Option Addr} {n c:Nat} {xs:List Int} (h:Own base w a n c xs) (hb:base≤w.heap.size):∃ s t,base≤s∧t≤w.heap.size∧IntsA true s t w a n c xs∧HeadI w s t:=by
 have hi:=h.ints
 by_cases hn:0<n
 ·rcases h.1.2 with ⟨h2,h3⟩ | ⟨g,cap,cur,hv,hbg,hg,_⟩
  ·simp only [Value.slice.injEq] at h2;omega
  ·simp only [Value.slice.injEq] at hv
   obtain ⟨rfl,_,rfl⟩:=hv
   obtain ⟨b,off,ha,_,_,hc,hf⟩:=hi.open hn
   simp only [Option.some.injEq,Addr.mk.injEq,and_true] at ha
   obtain ⟨rfl,rfl⟩:=ha
   have hlt:g<w.heap.size:=(Array.getElem?_eq_some_iff.1 hg).1
   exact ⟨g,g+1,hbg,hlt,⟨hi.1,hi.2.1,hi.2.2.1,hi.2.2.2.1,fun _=>⟨g,0,rfl,Nat.le_refl _,by omega,fun i hi=>⟨hc i hi,fun hz=>hf hz i hi⟩⟩,fun h=>(by cases h)⟩,fun _=>⟨rfl,_,hc 0 hn⟩⟩
 ·exact ⟨base,base,Nat.le_refl _,hb,⟨hi.1,hi.2.1,hi.2.2.1,hi.2.2.2.1,fun h=>absurd h hn,hi.2.2.2.2.2⟩,fun h=>by omega⟩
end Go.Proofs.YteiaofkgbdlpoaaDoor
namespace Go.Proofs.YteiaofkgbdlpoaaDoor
set_option linter.unusedSimpArgs false
set_option linter.unusedVariables false
open Go.RowKit
def mkRats (k:Int) (n:Nat):List RatD:=(List.range n).map fun (i:Nat)=>⟨k+2*(i:Int),k+2*(i:Int)+1⟩
theorem mkRats_len (k:Int) (n:Nat):(mkRats k n).length=n:=by simp [mkRats]
theorem mkRats_qx (k:Int) {n i:Nat} (h:i<n):qx (mkRats k n) i=⟨k+2*(i:Int),k+2*(i:Int)+1⟩:=by simp [qx,mkRats,h]
theorem RatsA.marked {lo hi lo' hi':Nat} {w w':World} {a:Option Addr} {n c:Nat} {xs:List RatD} (h:RatsA true lo hi w a n c xs) (hm:Marked lo' hi' w w'):∃ ys,RatsA true lo hi w' a n c ys:=by
 by_cases hn:0<n
 ·obtain ⟨b,off,rfl⟩:=ratsSome h hn
  have h0:=ratsAt h hn
  have each:∀ i,i<n→∃ y:RatD,I64 y.num∧I64 y.den∧w'.cell? ⟨b,off+i*2,none⟩=some (.int .i64 y.num)∧w'.cell? ⟨b,off+i*2+1,none⟩=some (.int .i64 y.den):=by
   intro i hi
   obtain ⟨_,_,g1,g2,g3,g4,_⟩:=ratsAt h hi
   obtain ⟨v1,e1,q1⟩:=hm.cell _ _ g3
   obtain ⟨v2,e2,q2⟩:=hm.cell _ _ g4
   have f1:∃ x,v1=.int .i64 x∧I64 x:=by
    rcases q1 with rfl | ⟨_,y,_,rfl,hy⟩
    ·exact ⟨_,rfl,g1⟩
    ·exact ⟨_,rfl,hy⟩
   have f2:∃ x,v2=.int .i64 x∧I64 x:=by
    rcases q2 with rfl | ⟨_,y,_,rfl,hy⟩
    ·exact ⟨_,rfl,g2⟩
    ·exact ⟨_,rfl,hy⟩
   obtain ⟨x1,rfl,y1⟩:=f1
   obtain ⟨x2,rfl,y2⟩:=f2
   exact ⟨⟨x1,x2⟩,y1,y2,e1,e2⟩
  haveI:Inhabited RatD:=⟨⟨0,0⟩⟩
  obtain ⟨y,hy⟩:=Deep.choose_lt each
  refine ⟨(List.range n).map y,ratsMk (by simp) h.2.1 h.2.2.1 h0.1 h0.2.1 fun i hi=>?_⟩
  have hq:qx ((List.range n).map y) i=y i:=by simp [qx,hi]
  obtain ⟨_,_,_,_,g3,g4,g5⟩:=ratsAt h hi
  obtain ⟨e1,e2,e3,e4⟩:=hy i hi
  rw [hq]
  exact ⟨e1,e2,e3,e4,fun hf=>by rw [hm.frz,hm.frz];exact g5 hf⟩
 ·exact ⟨xs,h.1,h.2.1,h.2.2.1,fun h=>absurd h hn,h.2.2.2.2⟩
def GivesMarkR (lo hi:Nat) (w:World) (r:Int) (a:Option Addr) (n c:Nat) (ys:List RatD) (e:Ending) (w':World):Prop:=e=.returned (.int .i64 r)∧Marked lo hi w w'∧RatsA true lo hi w' a n c ys
set_option maxHeartbeats 1600000 in
theorem markRats {lo hi:Nat} (a:Option Addr) (n c:Nat) (xs:List RatD) (k:Int) (w:World) (hI:RatsA true lo hi w a n c xs) (h0:0≤k) (h1:k≤4194304) (hn:n≤1048576) :
 Calls Tryd.prog 19 #[.slice a n c,.int .i64 k] w (GivesMarkR lo hi w (k+2*n) a n c (mkRats k n)):=by
 have hs:=hI.small
 by_cases hn0:0<n
 ·obtain ⟨b,off,rfl⟩:=ratsSome hI hn0
  have hlo:=(ratsAt hI hn0).1
  have hhi:=(ratsAt hI hn0).2.1
  have HI:=hid hI;clear hI
  go_enter Tryd.func19,Tryd.ntmps19
  go_wp2
  go_loopw [1,5] (fun q i wr=>∃ (j:Nat) (t:Int),i=.int .i64 j∧q=.int .i64 t∧t=k+2*j∧j≤n∧Hid (Marked lo hi w wr∧∀ i,i<j→wr.cell? ⟨b,off+i*2,none⟩=some (.int .i64 (k+2*i))∧wr.cell? ⟨b,off+i*2+1,none⟩=some (.int .i64 (k+2*i+1)))) (fun _ i _=>n - (intOf i).toNat)
  case atStart=>exact ⟨0,_,rfl,rfl,by omega,by omega,hid ⟨Marked.refl _ _ _,fun i hi=>by omega⟩⟩
  case round =>
   obtain ⟨j,t,rfl,rfl,ht,hj,HM⟩:=hrel
   have ht1:0≤t:=by omega
   have ht2:t≤7340032:=by omega
   have HT:=hid ht;clear ht
   by_cases hlt:j<n
   ·obtain ⟨_,_,g1,g2,g3,g4,g5⟩:=ratsAt HI.out hlt
    obtain ⟨v0,e0,q0⟩:=HM.out.1.cell _ _ g3
    obtain ⟨v1,e1,q1⟩:=HM.out.1.cell _ _ g4
    obtain ⟨y0,rfl⟩:∃ y,v0=.int .i64 y:=by
     rcases q0 with rfl | ⟨_,y,_,rfl,_⟩ <;> exact ⟨_,rfl⟩
    obtain ⟨y1,rfl⟩:∃ y,v1=.int .i64 y:=by
     rcases q1 with rfl | ⟨_,y,_,rfl,_⟩ <;> exact ⟨_,rfl⟩
    have hf0:wr.frozen? ⟨b,off+j*2,none⟩=false:=by rw [HM.out.1.frz];exact (g5 rfl).1
    have hf1:wr.frozen? ⟨b,off+j*2+1,none⟩=false:=by rw [HM.out.1.frz];exact (g5 rfl).2
    have hne:(⟨b,off+j*2,none⟩:Addr) ≠ ⟨b,off+j*2+1,none⟩:=by intro h;simp only [Addr.mk.injEq] at h;omega
    have hm1:=marked_set (lo:=lo) (hi:=hi) (x':=t) e0 hlo hhi (by unfold I64;omega)
    have e1':(wr.setCell ⟨b,off+j*2,none⟩ (.int .i64 t)).cell? ⟨b,off+j*2+1,none⟩=some (.int .i64 y1):=by rw [cset_other hne];exact e1
    have hm2:=marked_set (lo:=lo) (hi:=hi) (x':=t+1) e1' hlo hhi (by unfold I64;omega)
    have HMS:=hid (HM.out.1.trans (hm1.trans hm2))
    have HE:=hid (And.intro e0 (And.intro e1' hne))
    clear hm1 hm2 q0 q1 g1 g2 g3 g4 g5 hne
    go_wp2
    go_roundw
    case rel=>exact ⟨j+1,_,by go_num,rfl,by have:=HT.out;omega,by omega,hid ⟨HMS.out,fun i hi=>by
     by_cases e:i=j
     ·subst e
      refine ⟨?_,?_⟩
      ·rw [cset_other HE.out.2.2.symm,cset_same HE.out.1,HT.out]
      ·rw [cset_same HE.out.2.1,HT.out]
     ·obtain ⟨f1,f2⟩:=HM.out.2 i (by omega)
      refine ⟨?_,?_⟩
      ·rw [cset_other (by intro h;simp only [Addr.mk.injEq] at h;omega),cset_other (by intro h;simp only [Addr.mk.injEq] at h;omega)];exact f1
      ·rw [cset_other (by intro h;simp only [Addr.mk.injEq] at h;omega),cset_other (by intro h;simp only [Addr.mk.injEq] at h;omega)];exact f2⟩⟩
    case measure=>simp [intOf];omega
   ·go_wp2
    go_ret
    obtain rfl:j=n:=by omega
    refine ⟨ret_int (by have:=HT.out;omega),HM.out.1,ratsMk (mkRats_len _ _) HI.out.2.1 HI.out.2.2.1 hlo hhi fun i hi=>?_⟩
    obtain ⟨_,_,_,_,_,_,g5⟩:=ratsAt HI.out hi
    rw [mkRats_qx k hi]
    obtain ⟨f1,f2⟩:=HM.out.2 i hi
    exact ⟨by unfold I64;dsimp only;omega,by unfold I64;dsimp only;omega,f1,f2,fun hf=>by rw [HM.out.1.frz,HM.out.1.frz];exact g5 hf⟩
 ·have hn0':n≤0:=by omega
  have HI:=hid hI;clear hI
  go_enter Tryd.func19,Tryd.ntmps19
  go_wp2
  go_loopw [1,5] (fun q i wr=>i=.int .i64 0∧q=.int .i64 k∧wr=w) (fun _ i _=>n - (intOf i).toNat)
  case atStart=>exact ⟨rfl,rfl,rfl⟩
  case round =>
   obtain ⟨rfl,rfl,rfl⟩:=hrel
   go_wp2
   go_ret
   have hx:=HI.out
   obtain rfl:n=0:=by omega
   exact ⟨ret_int (by omega),Marked.refl _ _ _,rfl,hx.2.1,hx.2.2.1,(fun h=>by omega),hx.2.2.2.2⟩
set_option maxHeartbeats 800000 in
theorem heldRats {fz:Bool} {lo hi:Nat} (a:Option Addr) (n c:Nat) (k:Int) (w:World) (hI:RatsA fz lo hi w a n c (mkRats k n)) (h0:0≤k) (h1:k≤4194304) (hn:n≤1048576) :
 Calls Tryd.prog 20 #[.slice a n c,.int .i64 k] w (Gives w (.int .i64 (k+2*n))):=by
 have hs:=hI.small
 have HI:=hid hI
 go_enter Tryd.func20,Tryd.ntmps20
 go_wp2
 go_loopw [1,5] (fun q i wr=>∃ (j:Nat) (t:Int),i=.int .i64 j∧q=.int .i64 t∧t=k+2*j∧j≤n∧∃ m,wr=w.drewN m) (fun _ i _=>n - (intOf i).toNat)
 case atStart=>exact ⟨0,_,rfl,rfl,by omega,by omega,0,rfl⟩
 case round =>
  obtain ⟨j,t,rfl,rfl,ht,hj,m,rfl⟩:=hrel
  have ht1:0≤t:=by omega
  have ht2:t≤7340032:=by omega
  by_cases hlt:j<n
  ·obtain ⟨b,off,rfl⟩:=ratsSome HI.out (by omega)
   obtain ⟨_,_,_,_,d0,d1,_⟩:=ratsAt HI.out hlt
   rw [mkRats_qx k hlt] at d0 d1
   dsimp only at d0 d1
   rw [← ht] at d0 d1
   have HT:=hid ht;clear ht hI
   have hb:(t != t)=false:=by simp
   have hb1:(t+1 != t+1)=false:=by simp
   go_wp2
   go_roundw
   case rel=>exact ⟨j+1,_,by go_num,rfl,by have:=HT.out;omega,by omega,by first | exact ⟨_,rfl⟩ | exact ⟨_,dd⟩⟩
   case measure=>simp [intOf];omega
  ·have HT:=hid ht;clear ht
   go_wp2
   go_ret
   exact ⟨ret_int (by have:=HT.out;omega),by first | exact ⟨_,rfl⟩ | exact ⟨_,dd⟩⟩
def ratsQ:RowP (List RatD):=fun lo hi w a n c xs=>RatsA true lo hi w a n c xs
abbrev MatS:=SepA ratsQ
theorem MatS.mat {lo hi:Nat} {w:World} {a:Option Addr} {n c:Nat} {xss:List (List RatD)} (h:MatS lo hi w a n c xss):MatA true lo hi w a n c xss:=SepA.sl (R:=matR) (fun {lo hi w ra rn rc x} h=>⟨ra,rn,rc,rfl,h⟩) matRep h
end Go.Proofs.YteiaofkgbdlpoaaDoor
namespace Go.Proofs.YteiaofkgbdlpoaaDoor
set_option linter.unusedSimpArgs false
set_option linter.unusedVariables false
open Go.RowKit
end Go.Proofs.YteiaofkgbdlpoaaDoor
namespace Go.Proofs.YteiaofkgbdlpoaaDoor
set_option linter.unusedSimpArgs false
set_option linter.unusedVariables false
open Go.RowKit
section
variable {C:Nat→Nat→Prop} {fz:Bool} {lo hi:Nat} {w:World} {a:Option Addr} {n c:Nat}
theorem cxk_rats:∀ {xs:List RatD} {us:List Value},CXk C w 2 (xs.map ratDV) us→us=flatR xs∧∀ i,i<xs.length→I64 (qx xs i).num∧I64 (qx xs i).den
 | [],us,h=>⟨h,fun i hi=>absurd hi (Nat.not_lt_zero _)⟩
 | x :: xs,us,h=>by
  obtain ⟨u,v,rfl,g1,g2,g3⟩:=h
  obtain ⟨e,i1,i2⟩:=cxs_two.1 g1
  obtain ⟨e2,h2⟩:=cxk_rats g3
  subst e;subst e2
  refine ⟨rfl,fun i hi=>?_⟩
  cases i with
  | zero=>exact ⟨i1,i2⟩
  | succ i=>exact h2 i (by simpa using hi)
theorem ratsMk0 {xs:List RatD} (hl:xs.length=n) (hnc:n≤c) (hcm:c≤maxLen) (ha:a=none→c=0) (hI:∀ i,i<xs.length→I64 (qx xs i).num∧I64 (qx xs i).den)
 (h:0<n→∃ b off,a=some ⟨b,off,none⟩∧lo≤b∧b<hi∧∀ i u,(flatR xs)[i]? = some u→w.cell? ⟨b,off+i,none⟩=some u∧(fz=true→w.frozen? ⟨b,off+i,none⟩=false)):RatsA fz lo hi w a n c xs:=by
 by_cases hn:0<n
 ·obtain ⟨b,off,rfl,h1,h2,h3⟩:=h hn
  refine ratsMk hl hnc hcm h1 h2 fun i hi=>?_
  have f:=flatR_at (xs:=xs) (i:=i) (by omega)
  have g1:=h3 _ _ f.1
  have g2:=h3 _ _ f.2
  exact ⟨(hI i (by omega)).1,(hI i (by omega)).2,g1.1,g2.1,fun e=>⟨g1.2 e,g2.2 e⟩⟩
 ·exact ⟨hl,hnc,hcm,fun h=>absurd h hn,ha⟩
theorem cx_ratsC {xs:List RatD} {us:List Value} (hC:∀ b i,C b i→lo≤b∧b<hi) (h:CX C w (ratsD xs) us):∃ a n c,us=[.slice a n c]∧RatsA false lo hi w a n c xs:=by
 obtain ⟨a,n,c,vs,rfl,h2,h3,h4,h5,h6,h7,h8,h9⟩:=h
 obtain ⟨rfl,hI⟩:=cxk_rats h3
 rw [List.length_map] at h2
 refine ⟨a,n,c,rfl,ratsMk0 h2 h5 h6 h7 hI fun hn=>?_⟩
 obtain ⟨b,off,ha,hc⟩:=h9 hn
 have f:=flatR_at (xs:=xs) (i:=0) (by omega)
 have hb:=hC b _ (hc _ _ f.1).1
 exact ⟨b,off,ha,hb.1,hb.2,fun i u hu=>⟨(hc i u hu).2,fun h=>(by cases h)⟩⟩
end
section
variable {fz:Bool} {lo hi B lo':Nat} {w w':World} {a:Option Addr} {n c:Nat} {xs:List (List RatD)}
end
section
variable {fz:Bool} {lo hi:Nat} {w:World} {a:Option Addr} {n c:Nat} {xs:List (List RatD)} {ba ca:Option Addr} {bn bc cn cc:Nat} {bs cs:List RatD}
end
end Go.Proofs.YteiaofkgbdlpoaaDoor
namespace Go.Proofs.YteiaofkgbdlpoaaDoor
set_option linter.unusedSimpArgs false
set_option linter.unusedVariables false
open Go.RowKit
def GvRatR (lo:Nat) (w:World) (xs:List RatD) (v:RatD) (b:Bool) (e:Ending) (w':World):Prop:=∃ a n c,e=.returned (.tuple #[.slice a n c,ratV v.num v.den,.bool b])∧RatsA false lo w'.heap.size w' a n c xs∧Below w.heap.size w w'
def GvRatS (w:World) (xs:List RatD) (v:RatD) (b:Bool) (e:Ending) (w':World):Prop:=∃ a n c,e=.returned (.tuple #[.slice a n c,ratV v.num v.den,.bool b])∧RatsA true w.heap.size w'.heap.size w' a n c xs∧Below w.heap.size w w'
theorem cv_tup3 {G:Gh} {w:World} {x y z:AV} {v:Value} (h:CV G w (.tup [x,y,z]) v):∃ a b c,v=.tuple #[a,b,c]∧CV G w x a∧CV G w y b∧CV G w z c:=by
 obtain ⟨vs,rfl,a,us,rfl,h1,b,us',rfl,h2,c,us'',rfl,h3,rfl⟩:=h
 exact ⟨a,b,c,rfl,h1,h2,h3⟩
theorem rat_read {f:FuncId} {args:List AV} {b:BestS} {lo:Nat} {w:World} {vs:List Value} (hA:AFn f args [] (fun r os=>r=ansBS b∧os=[])) (hv:∀ G:Gh,G.C=cellsC lo w→CVs G w args vs) (hlw:lo≤w.heap.size) :
 Calls Tryd.prog f vs.toArray w (GvRatR lo w b.pt b.val b.found):=by
 refine (afn_calls hA (C0:=cellsC lo w) (fun b i h=>h.2.1) hv).mono ?_
 rintro e w' ⟨v,G',rfl,h1,hb,hcs,hlc,huf⟩
 have hC:∀ b i,G'.C b i→lo≤b∧b<w'.heap.size:=fun b i hc=>by
  refine ⟨?_,hcs b i hc⟩
  by_cases h:b<w.heap.size
  ·exact (hlc b i hc h).1
  ·omega
 obtain ⟨x,y,z,rfl,h2,h3,h4⟩:=cv_tup3 h1
 obtain ⟨a,n,c,e1,hR⟩:=cx_ratsC hC (cvSl.1 h2)
 simp only [List.cons.injEq,and_true] at e1
 subst e1
 obtain ⟨rfl,_⟩:=cv_ratS h3
 obtain rfl:=cvBool.1 h4
 exact ⟨a,n,c,rfl,hR,hb⟩
theorem rat_own' {f:FuncId} {b:BestS} {w:World} {vs:List Value} (hA:Calls Tryd.prog f vs.toArray w (Out (cellsC 0 w) (ansB b) w)):Calls Tryd.prog f vs.toArray w (GvRatS w b.pt b.val b.found):=by
 refine hA.mono ?_
 rintro e w' ⟨v,G',rfl,h1,hb,hcs,hlc,huf⟩
 obtain ⟨x,y,z,rfl,h2,h3,h4⟩:=cv_tup3 h1
 obtain ⟨rfl,_⟩:=cv_ratS h3
 obtain rfl:=cvBool.1 h4
 obtain ⟨a,n,c,vs',e1,g2,g3,⟨f1,f2,f3,f4,f5,f6⟩,g5⟩:=cvWh.1 h2
 simp only [List.cons.injEq,and_true] at e1
 subst e1
 obtain ⟨rfl,hI⟩:=cxk_rats g3
 simp only [List.length_map] at g2
 refine ⟨a,n,c,rfl,ratsMk0 g2 f2 f3 f4 hI (fun hn=>?_),hb⟩
 obtain ⟨rb,roff,hra,hrc⟩:=f6 hn
 obtain ⟨rb',hra',N,hrt⟩:=g5 hn
 rw [hra] at hra'
 simp only [Option.some.injEq,Addr.mk.injEq,and_true] at hra'
 obtain ⟨rfl,rfl⟩:=hra'
 have hge:w.heap.size≤rb:=by
  by_cases h:rb<w.heap.size
  ·exact absurd ⟨N,fun i hi=>hlc rb i (hrt i hi) h⟩ (no_tag (lo:=0) (w:=w) (b:=rb))
  ·omega
 have c0:=hrc _ _ (flatR_at (xs:=b.pt) (i:=0) (by omega)).1
 exact ⟨rb,0,hra,hge,hcs rb _ c0.1,fun i u hu=>⟨(hrc i u hu).2,fun _=>huf rb _ (hrc i u hu).1 hge⟩⟩
def GvMarkRats (lo hi:Nat) (w:World) (k:Int) (a:Option Addr) (n c:Nat) (xs:List RatD) (e:Ending) (w':World):Prop:=e=.returned (.int .i64 (k+(xs.length*2:Nat)))∧MarkedG lo hi w w'∧RatsA true lo hi w' a n c (mkRats k xs.length)
theorem resK_Rats {lo hi:Nat} (a:Option Addr) (n c:Nat) (xs:List RatD) (k:Int) (w:World) (hI:RatsA true lo hi w a n c xs) (hh:hi≤w.heap.size) (h0:0≤k) (h1:k≤1048576) (hs:xs.length≤1048576) :
 Calls Tryd.prog 19 #[.slice a n c,.int .i64 k] w (GvMarkRats lo hi w k a n c xs):=by
 have hl:=hI.len
 refine (markRats a n c xs k w hI h0 (by omega) (by omega)).mono ?_
 rintro e w' ⟨h2,h3,h4⟩
 exact ⟨by rw [h2,← hl];congr 2;omega,.of_marked h3,by rw [hl];exact h4⟩
theorem heldK_Rats {fz:Bool} {lo hi:Nat} (a:Option Addr) (n c:Nat) (xs:List RatD) (k:Int) (w:World) (hI:RatsA fz lo hi w a n c (mkRats k xs.length)) (hh:hi≤w.heap.size) (h0:0≤k) (h1:k≤1048576) (hs:xs.length≤1048576) :
 Calls Tryd.prog 20 #[.slice a n c,.int .i64 k] w (Leaves w (.int .i64 (k+(xs.length*2:Nat)))):=by
 have hl:xs.length=n:=by rw [← mkRats_len k xs.length];exact hI.len
 subst hl
 have:=(heldRats a xs.length c k w hI h0 (by omega) hs).mono fun _ _ h=>h.leaves
 have e:k+((xs.length*2:Nat):Int)=k+2*(xs.length:Nat):=by omega
 rw [e]
 exact this
section
variable {fz:Bool} {lo hi:Nat} {w:World} {a:Option Addr} {n c:Nat} {xs:List (List RatD)} {ba ca:Option Addr} {bn bc cn cc:Nat} {bs cs:List RatD}
end
end Go.Proofs.YteiaofkgbdlpoaaDoor
namespace Go.Proofs.YteiaofkgbdlpoaaDoor
set_option linter.unusedSimpArgs false
set_option linter.unusedVariables false
attribute [local go_sem ↓] reduceIte
attribute [local go_sem] Nat.reduceEqDiff Nat.reduceLT Nat.reduceAdd Nat.reduceLeDiff Nat.reduceMul Nat.reduceBEq Nat.reduceSub reduceCtorEq Int.reduceLE Int.reduceNeg Int.reduceLT
open Go.RowKit
theorem take_mapI {α β:Type} (f:α→β) (l:List α) (d:α) {i:Nat} (h:i<l.length):(l.take (i+1)).map f=(l.take i).map f ++ [f (l.getD i d)]:=by
 rw [List.take_add_one,List.getElem?_eq_getElem h,List.map_append]
 simp [List.getD,h]
def trQ (A:List (List RatD)) (n:Nat):List (List RatD):=(List.range n).map fun k=>A.map fun r=>qx r k
theorem trQ_succ (A:List (List RatD)) (n:Nat):trQ A (n+1)=trQ A n ++ [A.map fun r=>qx r n]:=by unfold trQ;rw [List.range_succ,List.map_append];rfl
theorem implCopyD (l:List RatD) (hl:l.length≤1048576):AFn 64 [.d (ratsD l)] [] (fun r os=>r=.d (ratsD l)∧os=[]) :=
 afn_weak (implCopyQ l hl) (fun r os ⟨h1,h2⟩=>⟨_,by rw [h1];exact .buf _ _ _ _,rfl,h2⟩)
section
variable (A:List (List RatD)) (m n:Nat) (hOK:matOK A m n=true) (hm:1≤m∧m≤1000) (hn:n≤1000)
include hOK hm hn
set_option maxHeartbeats 4000000 in
theorem implTransA:AFn 63 [.d (matD A)] [] (fun r os=>r=.tup [.d (matD (trQ A n)),.d (.bool true)]∧os=[]):=by
 obtain ⟨hl,hrow⟩:=matOK_out hOK
 have hA0:0<A.length:=by omega
 have h0l:=(hrow 0 hA0).1
 have r0:(A.map ratsD).getD 0 (.bool false)=ratsD (mx A 0):=getDm hA0
 have hAm:(A.map ratsD).length=A.length:=List.length_map ..
 have hRm:((mx A 0).map ratDV).length=n:=by rw [List.length_map];exact h0l
 have z0:decide (((A.length:Nat):Int)=0)=false:=decide_eq_false (by omega)
 generalize mx A 0=A0 at *
 refine afn_of (rv:=[.tmp 2,.tmp 3]) tyT_ok Tryd.func63 rfl (by decide +kernel) Tryd.ntmps63 rfl (by simp) ?_
 repeat' (first | refine sq ?_ | refine stp ?_ | refine blk_o (by decide) ?_ | (apply cb;(focus (simp (disch:=(first | omega | (simp;omega))) only [go_sem,w64,matD,z0];try exact rfl));refine cok ?_) | (refine rgT ?_;intro K hK) | (refine dA ?_;intro K hK) | (with_reducible refine hK _ ?_;clear hK K) | (refine stq ?_;simp (disch:=(first | omega | (simp;omega))) only [go_sem,w64,matD,z0]) | refine as1 ?_ | fail)
 refine awp_loopw (fun mm s=>∃ i:Nat,mm=A.length - i∧i≤A.length∧s=mkS [(0,.d (matD A)),(13,.d (matD A)),(14,.d (.int (A.length:Nat))),(15,.d (.int (i:Nat)))] []) ?_ ?_
 ·refine ⟨_,_,?_,0,rfl,Nat.zero_le _,rfl⟩
  (refine sle_mk ?_ ?_ <;> simp (disch:=(first | omega | (simp;omega))) only [go_sem,w64,matD] <;> exact leafs)
 ·rintro mm s ⟨i,rfl,hi,rfl⟩
  have w4:IntKind.i64.wrap ((i:Int)+1)=((i+1:Nat):Int):=by rw [w64 (by omega)];rfl
  repeat' (first | refine sq ?_ | refine stp ?_ | refine blk_o (by decide) ?_ | (apply cb;(focus (simp (disch:=(first | omega | (simp;omega))) only [go_sem,w64];try exact rfl));refine cok ?_) | (refine rgT ?_;intro K hK) | (refine dA ?_;intro K hK) | (with_reducible refine hK _ ?_;clear hK K) | (refine stq ?_;simp (disch:=(first | omega | (simp;omega))) only [go_sem,w64]) | refine as1 ?_ | fail)
  refine awp_if (p:=(i:Int)<(A.length:Nat)) (by simp (disch:=(first | omega | (simp;omega))) only [go_sem,w64]) ?_ ?_ <;> intro hc
  ·have hi2:i<A.length:=by omega
   have g0:(A.map ratsD).getD i (.bool false)=ratsD (mx A i):=getDm hi2
   obtain ⟨hxl,hxv⟩:=hrow i hi2
   have hav:=allValidA (mx A i) (by omega)
   rw [hxv] at hav
   generalize mx A i=x at *
   have hxm:(x.map ratDV).length=n:=by rw [List.length_map];exact hxl
   repeat' (first | refine sq ?_ | refine stp ?_ | refine blk_o (by decide) ?_ | (apply cb;(focus (simp (disch:=(first | omega | (simp;omega))) only [go_sem,w64,matD,hAm,g0,r0,Int.toNat_zero,ratsD,hxm,hRm];try exact rfl));refine cok ?_) | (refine rgT ?_;intro K hK) | (refine dA ?_;intro K hK) | (with_reducible refine hK _ ?_;clear hK K) | (refine stq ?_;simp (disch:=(first | omega | (simp;omega))) only [go_sem,w64,matD,hAm,g0,r0,Int.toNat_zero,ratsD,hxm,hRm]) | refine as1 ?_ | fail)
   (first | refine callA (hav) ?_ | refine callD (hav) ?_ | refine callE (hav) ?_ | refine callF (hav) ?_ ?_)
   repeat' (first | refine sq ?_ | refine stp ?_ | refine blk_o (by decide) ?_ | (apply cb;(focus (simp (disch:=(first | omega | (simp;omega))) only [go_sem,w64,w4];try exact rfl));refine cok ?_) | (refine rgT ?_;intro K hK) | (refine dA ?_;intro K hK) | (with_reducible refine hK _ ?_;clear hK K) | (refine stq ?_;simp (disch:=(first | omega | (simp;omega))) only [go_sem,w64,w4]) | refine as1 ?_ | fail)
   refine ⟨A.length - (i+1),_,by omega,?_,i+1,rfl,by omega,rfl⟩
   (refine sle_mk ?_ ?_ <;> simp (disch:=(first | omega | (simp;omega))) only [go_sem,w64,matD] <;> exact leafs)
  ·repeat' (first | refine sq ?_ | refine stp ?_ | refine blk_o (by decide) ?_ | (apply cb;(focus (simp (disch:=(first | omega | (simp;omega))) only [go_sem,w64,matD,r0,Int.toNat_zero,ratsD,hRm,hAm];try exact rfl));refine cok ?_) | (refine rgT ?_;intro K hK) | (refine dA ?_;intro K hK) | (with_reducible refine hK _ ?_;clear hK K) | (refine stq ?_;simp (disch:=(first | omega | (simp;omega))) only [go_sem,w64,matD,r0,Int.toNat_zero,ratsD,hRm,hAm]) | refine as1 ?_ | fail)
   refine awp_nilbuf 6 6 28 1 (by simp (disch:=(first | omega | (simp;omega))) only [go_sem,w64]) ?_
   refine awp_loopw (fun mm s=>∃ k:Nat,mm=n - k∧k≤n∧s=mkS [(0,.d (matD A)),(6,.buf 6 28 1 ((trQ A k).map ratsD)),(35,.d (.int (n:Nat))),(36,.d (.int (k:Nat)))] []) ?_ ?_
   ·refine ⟨_,_,?_,0,rfl,Nat.zero_le _,rfl⟩
    have e:trQ A 0=[]:=rfl
    (refine sle_mk ?_ ?_ <;> simp (disch:=(first | omega | (simp;omega))) only [go_sem,w64,matD,e,List.map_nil] <;> exact leafs)
   ·rintro mm s ⟨k,rfl,hk,rfl⟩
    have w5:IntKind.i64.wrap ((k:Int)+1)=((k+1:Nat):Int):=by rw [w64 (by omega)];rfl
    repeat' (first | refine sq ?_ | refine stp ?_ | refine blk_o (by decide) ?_ | (apply cb;(focus (simp (disch:=(first | omega | (simp;omega))) only [go_sem,w64];try exact rfl));refine cok ?_) | (refine rgT ?_;intro K hK) | (refine dA ?_;intro K hK) | (with_reducible refine hK _ ?_;clear hK K) | (refine stq ?_;simp (disch:=(first | omega | (simp;omega))) only [go_sem,w64]) | refine as1 ?_ | fail)
    refine awp_if (p:=(k:Int)<(n:Nat)) (by simp (disch:=(first | omega | (simp;omega))) only [go_sem,w64]) ?_ ?_ <;> intro hc2
    ·repeat' (first | refine sq ?_ | refine stp ?_ | refine blk_o (by decide) ?_ | (apply cb;(focus (simp (disch:=(first | omega | (simp;omega))) only [go_sem,w64,matD,hAm];try exact rfl));refine cok ?_) | (refine rgT ?_;intro K hK) | (refine dA ?_;intro K hK) | (with_reducible refine hK _ ?_;clear hK K) | (refine stq ?_;simp (disch:=(first | omega | (simp;omega))) only [go_sem,w64,matD,hAm]) | refine as1 ?_ | fail)
     refine awp_nilbuf 8 8 43 2 (by simp (disch:=(first | omega | (simp;omega))) only [go_sem,w64]) ?_
     refine awp_loopw (fun mm s=>∃ i:Nat,mm=A.length - i∧i≤A.length∧s=mkS [(0,.d (matD A)),(6,.buf 6 28 1 ((trQ A k).map ratsD)),(35,.d (.int (n:Nat))),(36,.d (.int (k:Nat))),(7,.d (.int (k:Nat))),(8,.buf 8 43 2 (((A.take i).map fun r=>qx r k).map ratDV)),(40,.d (.int (A.length:Nat))),(41,.d (.int (i:Nat)))] []) ?_ ?_
     ·refine ⟨_,_,?_,0,rfl,Nat.zero_le _,rfl⟩
      (refine sle_mk ?_ ?_ <;> simp (disch:=(first | omega | (simp;omega))) only [go_sem,w64,matD,List.take_zero,List.map_nil] <;> exact leafs)
     ·rintro mm s ⟨i,rfl,hi,rfl⟩
      have w6:IntKind.i64.wrap ((i:Int)+1)=((i+1:Nat):Int):=by rw [w64 (by omega)];rfl
      repeat' (first | refine sq ?_ | refine stp ?_ | refine blk_o (by decide) ?_ | (apply cb;(focus (simp (disch:=(first | omega | (simp;omega))) only [go_sem,w64];try exact rfl));refine cok ?_) | (refine rgT ?_;intro K hK) | (refine dA ?_;intro K hK) | (with_reducible refine hK _ ?_;clear hK K) | (refine stq ?_;simp (disch:=(first | omega | (simp;omega))) only [go_sem,w64]) | refine as1 ?_ | fail)
      refine awp_if (p:=(i:Int)<(A.length:Nat)) (by simp (disch:=(first | omega | (simp;omega))) only [go_sem,w64]) ?_ ?_ <;> intro hc3
      ·have hi2:i<A.length:=by omega
       have g0:(A.map ratsD).getD i (.bool false)=ratsD (mx A i):=getDm hi2
       obtain ⟨hxl,hxv⟩:=hrow i hi2
       have ht:=take_mapI (fun r=>qx r k) A [] hi2
       have hb:(((A.take i).map fun r=>qx r k).map ratDV).length=i:=by rw [List.length_map,List.length_map,List.length_take];omega
       have ex:A.getD i []=mx A i:=rfl
       rw [ex] at ht
       generalize mx A i=x at *
       have g1:(x.map ratDV).getD k (.bool false)=ratDV (qx x k):=getDq (by omega)
       have hxm:(x.map ratDV).length=n:=by rw [List.length_map];exact hxl
       repeat' (first | refine sq ?_ | refine stp ?_ | refine blk_o (by decide) ?_ | (apply cb;(focus (simp (disch:=(first | omega | (simp;omega))) only [go_sem,w64,matD,hAm,g0,ratsD,g1,hxm,w6,hb,ratDV];try exact rfl));refine cok ?_) | (refine rgT ?_;intro K hK) | (refine dA ?_;intro K hK) | (with_reducible refine hK _ ?_;clear hK K) | (refine stq ?_;simp (disch:=(first | omega | (simp;omega))) only [go_sem,w64,matD,hAm,g0,ratsD,g1,hxm,w6,hb,ratDV]) | refine as1 ?_ | fail)
       refine ⟨A.length - (i+1),_,by omega,?_,i+1,rfl,by omega,rfl⟩
       rw [ht,List.map_append]
       (refine sle_mk ?_ ?_ <;> simp (disch:=(first | omega | (simp;omega))) only [go_sem,w64,matD,List.map_cons,List.map_nil,ratDV] <;> exact leafs)
      ·obtain rfl:i=A.length:=by omega
       have hb1:((trQ A k).map ratsD).length=k:=by simp [trQ]
       rw [List.take_length]
       have hb2:((A.map fun r=>qx r k).map ratDV).length=A.length:=by simp
       repeat' (first | refine sq ?_ | refine stp ?_ | refine blk_o (by decide) ?_ | (apply cb;(focus (simp (disch:=(first | omega | (simp;omega))) only [go_sem,w64,w5,hb1,hb2];try exact rfl));refine cok ?_) | (refine rgT ?_;intro K hK) | (refine dA ?_;intro K hK) | (with_reducible refine hK _ ?_;clear hK K) | (refine stq ?_;simp (disch:=(first | omega | (simp;omega))) only [go_sem,w64,w5,hb1,hb2]) | refine as1 ?_ | fail)
       refine ⟨n - (k+1),_,by omega,?_,k+1,rfl,by omega,rfl⟩
       rw [trQ_succ,List.map_append]
       (refine sle_mk ?_ ?_ <;> simp (disch:=(first | omega | (simp;omega))) only [go_sem,w64,matD,List.map_cons,List.map_nil,ratsD] <;> exact leafs)
    ·obtain rfl:k=n:=by omega
     repeat' (first | refine sq ?_ | refine stp ?_ | refine blk_o (by decide) ?_ | (apply cb;(focus (simp (disch:=(first | omega | (simp;omega))) only [go_sem,w64];try exact rfl));refine cok ?_) | (refine rgT ?_;intro K hK) | (refine dA ?_;intro K hK) | (with_reducible refine hK _ ?_;clear hK K) | (refine stq ?_;simp (disch:=(first | omega | (simp;omega))) only [go_sem,w64]) | refine as1 ?_ | fail)
     (refine endA (r:=.tup [.d (matD (trQ A k)),.d (.bool true)]) ?_)
     exact ⟨rfl,rfl⟩
set_option maxHeartbeats 4000000 in
theorem specTransA:AFn 62 [.d (matD A)] [] (fun r os=>r=.tup [.d (matD (trQ A n)),.d (.bool true)]∧os=[]):=by
 obtain ⟨hl,hrow⟩:=matOK_out hOK
 have hA0:0<A.length:=by omega
 have h0l:=(hrow 0 hA0).1
 have r0:(A.map ratsD).getD 0 (.bool false)=ratsD (mx A 0):=getDm hA0
 have hAm:(A.map ratsD).length=A.length:=List.length_map ..
 have hRm:((mx A 0).map ratDV).length=n:=by rw [List.length_map];exact h0l
 have z0:decide (((A.length:Nat):Int)=0)=false:=decide_eq_false (by omega)
 have hsq:=squareA A m n (by omega) (by omega) (by omega)
 rw [hOK,← hl] at hsq
 generalize mx A 0=A0 at *
 refine afn_of (rv:=[.tmp 2,.tmp 3]) tyT_ok Tryd.func62 rfl (by decide +kernel) Tryd.ntmps62 rfl (by simp) ?_
 repeat' (first | refine sq ?_ | refine stp ?_ | refine blk_o (by decide) ?_ | (apply cb;(focus (simp (disch:=(first | omega | (simp;omega))) only [go_sem,w64,matD,z0,hAm,r0,Int.toNat_zero,ratsD,hRm];try exact rfl));refine cok ?_) | (refine rgT ?_;intro K hK) | (refine dA ?_;intro K hK) | (with_reducible refine hK _ ?_;clear hK K) | (refine stq ?_;simp (disch:=(first | omega | (simp;omega))) only [go_sem,w64,matD,z0,hAm,r0,Int.toNat_zero,ratsD,hRm]) | refine as1 ?_ | fail)
 (first | refine callA (hsq) ?_ | refine callD (hsq) ?_ | refine callE (hsq) ?_ | refine callF (hsq) ?_ ?_)
 repeat' (first | refine sq ?_ | refine stp ?_ | refine blk_o (by decide) ?_ | (apply cb;(focus (simp (disch:=(first | omega | (simp;omega))) only [go_sem,w64,matD,z0,hAm,r0,Int.toNat_zero,ratsD,hRm];try exact rfl));refine cok ?_) | (refine rgT ?_;intro K hK) | (refine dA ?_;intro K hK) | (with_reducible refine hK _ ?_;clear hK K) | (refine stq ?_;simp (disch:=(first | omega | (simp;omega))) only [go_sem,w64,matD,z0,hAm,r0,Int.toNat_zero,ratsD,hRm]) | refine as1 ?_ | fail)
 refine awp_loopw (fun mm s=>∃ k:Nat,mm=n - k∧k≤n∧s=mkS [(0,.d (matD A)),(4,.buf 8 28 1 ((trQ A k).map ratsD)),(5,.d (.int (k:Nat)))] []) ?_ ?_
 ·refine ⟨_,_,?_,0,rfl,Nat.zero_le _,rfl⟩
  have e:trQ A 0=[]:=rfl
  (refine sle_mk ?_ ?_ <;> simp (disch:=(first | omega | (simp;omega))) only [go_sem,w64,matD,e,List.map_nil] <;> exact leafs)
 ·rintro mm s ⟨k,rfl,hk,rfl⟩
  have w5:IntKind.i64.wrap ((k:Int)+1)=((k+1:Nat):Int):=by rw [w64 (by omega)];rfl
  repeat' (first | refine sq ?_ | refine stp ?_ | refine blk_o (by decide) ?_ | (apply cb;(focus (simp (disch:=(first | omega | (simp;omega))) only [go_sem,w64,matD,hAm,r0,Int.toNat_zero,ratsD,hRm];try exact rfl));refine cok ?_) | (refine rgT ?_;intro K hK) | (refine dA ?_;intro K hK) | (with_reducible refine hK _ ?_;clear hK K) | (refine stq ?_;simp (disch:=(first | omega | (simp;omega))) only [go_sem,w64,matD,hAm,r0,Int.toNat_zero,ratsD,hRm]) | refine as1 ?_ | fail)
  refine awp_if (p:=(k:Int)<(n:Nat)) (by simp (disch:=(first | omega | (simp;omega))) only [go_sem,w64]) ?_ ?_ <;> intro hc2
  ·repeat' (first | refine sq ?_ | refine stp ?_ | refine blk_o (by decide) ?_ | (apply cb;(focus (simp (disch:=(first | omega | (simp;omega))) only [go_sem,w64,matD,hAm];try exact rfl));refine cok ?_) | (refine rgT ?_;intro K hK) | (refine dA ?_;intro K hK) | (with_reducible refine hK _ ?_;clear hK K) | (refine stq ?_;simp (disch:=(first | omega | (simp;omega))) only [go_sem,w64,matD,hAm]) | refine as1 ?_ | fail)
   refine awp_loopw (fun mm s=>∃ i:Nat,mm=A.length - i∧i≤A.length∧s=mkS [(0,.d (matD A)),(4,.buf 8 28 1 ((trQ A k).map ratsD)),(5,.d (.int (k:Nat))),(6,.buf 32 43 2 (((A.take i).map fun r=>qx r k).map ratDV)),(7,.d (.int (i:Nat)))] []) ?_ ?_
   ·refine ⟨_,_,?_,0,rfl,Nat.zero_le _,rfl⟩
    (refine sle_mk ?_ ?_ <;> simp (disch:=(first | omega | (simp;omega))) only [go_sem,w64,matD,List.take_zero,List.map_nil] <;> exact leafs)
   ·rintro mm s ⟨i,rfl,hi,rfl⟩
    have w6:IntKind.i64.wrap ((i:Int)+1)=((i+1:Nat):Int):=by rw [w64 (by omega)];rfl
    repeat' (first | refine sq ?_ | refine stp ?_ | refine blk_o (by decide) ?_ | (apply cb;(focus (simp (disch:=(first | omega | (simp;omega))) only [go_sem,w64,matD,hAm];try exact rfl));refine cok ?_) | (refine rgT ?_;intro K hK) | (refine dA ?_;intro K hK) | (with_reducible refine hK _ ?_;clear hK K) | (refine stq ?_;simp (disch:=(first | omega | (simp;omega))) only [go_sem,w64,matD,hAm]) | refine as1 ?_ | fail)
    refine awp_if (p:=(i:Int)<(A.length:Nat)) (by simp (disch:=(first | omega | (simp;omega))) only [go_sem,w64]) ?_ ?_ <;> intro hc3
    ·have hi2:i<A.length:=by omega
     have g0:(A.map ratsD).getD i (.bool false)=ratsD (mx A i):=getDm hi2
     obtain ⟨hxl,hxv⟩:=hrow i hi2
     have ht:=take_mapI (fun r=>qx r k) A [] hi2
     have hb:(((A.take i).map fun r=>qx r k).map ratDV).length=i:=by rw [List.length_map,List.length_map,List.length_take];omega
     have ex:A.getD i []=mx A i:=rfl
     rw [ex] at ht
     generalize mx A i=x at *
     have g1:(x.map ratDV).getD k (.bool false)=ratDV (qx x k):=getDq (by omega)
     have hxm:(x.map ratDV).length=n:=by rw [List.length_map];exact hxl
     repeat' (first | refine sq ?_ | refine stp ?_ | refine blk_o (by decide) ?_ | (apply cb;(focus (simp (disch:=(first | omega | (simp;omega))) only [go_sem,w64,matD,hAm,g0,ratsD,g1,hxm,w6,hb,ratDV];try exact rfl));refine cok ?_) | (refine rgT ?_;intro K hK) | (refine dA ?_;intro K hK) | (with_reducible refine hK _ ?_;clear hK K) | (refine stq ?_;simp (disch:=(first | omega | (simp;omega))) only [go_sem,w64,matD,hAm,g0,ratsD,g1,hxm,w6,hb,ratDV]) | refine as1 ?_ | fail)
     refine ⟨A.length - (i+1),_,by omega,?_,i+1,rfl,by omega,rfl⟩
     rw [ht,List.map_append]
     (refine sle_mk ?_ ?_ <;> simp (disch:=(first | omega | (simp;omega))) only [go_sem,w64,matD,List.map_cons,List.map_nil,ratDV] <;> exact leafs)
    ·obtain rfl:i=A.length:=by omega
     have hb1:((trQ A k).map ratsD).length=k:=by simp [trQ]
     rw [List.take_length]
     have hb2:((A.map fun r=>qx r k).map ratDV).length=A.length:=by simp
     repeat' (first | refine sq ?_ | refine stp ?_ | refine blk_o (by decide) ?_ | (apply cb;(focus (simp (disch:=(first | omega | (simp;omega))) only [go_sem,w64,w5,hb1,hb2];try exact rfl));refine cok ?_) | (refine rgT ?_;intro K hK) | (refine dA ?_;intro K hK) | (with_reducible refine hK _ ?_;clear hK K) | (refine stq ?_;simp (disch:=(first | omega | (simp;omega))) only [go_sem,w64,w5,hb1,hb2]) | refine as1 ?_ | fail)
     refine ⟨n - (k+1),_,by omega,?_,k+1,rfl,by omega,rfl⟩
     rw [trQ_succ,List.map_append]
     (refine sle_mk ?_ ?_ <;> simp (disch:=(first | omega | (simp;omega))) only [go_sem,w64,matD,List.map_cons,List.map_nil,ratsD] <;> exact leafs)
  ·obtain rfl:k=n:=by omega
   repeat' (first | refine sq ?_ | refine stp ?_ | refine blk_o (by decide) ?_ | (apply cb;(focus (simp (disch:=(first | omega | (simp;omega))) only [go_sem,w64];try exact rfl));refine cok ?_) | (refine rgT ?_;intro K hK) | (refine dA ?_;intro K hK) | (with_reducible refine hK _ ?_;clear hK K) | (refine stq ?_;simp (disch:=(first | omega | (simp;omega))) only [go_sem,w64]) | refine as1 ?_ | fail)
   (refine endA (r:=.tup [.d (matD (trQ A k)),.d (.bool true)]) ?_)
   exact ⟨rfl,rfl⟩
end
structure LpS where
 A:List (List RatD)
 B:List RatD
 C:List RatD
 ok:Bool
def ansP (p:LpS):AV:=.tup [.d (lpD p.A p.B p.C),.d (.bool p.ok)]
theorem noLp:ALe (.tup [.d (.agg [.sl 1 [],.sl 1 [],.sl 1 []]),.d (.bool false)]) (.tup [.d (.agg [.sl 1 [],.sl 2 [],.sl 2 []]),.d (.bool false)]):=.tup (.cons (ALe.dd (dle_agg (.cons (dle_refl _) (.cons (dle_nil 1 2) (.cons (dle_nil 1 2) .nil))))) (.cons (.refl _) .nil))
def dlF (A:List (List RatD)) (B C:List RatD):LpS:=if lpV A B C=true then ⟨trQ A C.length,C,B,true⟩ else ⟨[],[],[],false⟩
section
variable (A:List (List RatD)) (B C:List RatD) (hA:A.length≤1048576) (hr:∀ i,i<A.length→(mx A i).length≤1048576) (hB:B.length≤1048576) (hC:C.length≤1048576)
include hA hr hB hC
set_option maxHeartbeats 4000000 in
theorem implDualA:AFn 43 [.d (lpD A B C)] [] (fun r os=>r=ansP (dlF A B C)∧os=[]):=by
 refine afn_of (rv:=[.cell 2 30,.tmp 3]) tyT_ok Tryd.func43 rfl (by decide +kernel) Tryd.ntmps43 rfl (by simp) ?_
 repeat' (first | refine sq ?_ | refine stp ?_ | refine blk_o (by decide) ?_ | (apply cb;(focus (simp (disch:=(first | omega | (simp;omega))) only [go_sem,w64,lpD];try exact rfl));refine cok ?_) | (refine rgT ?_;intro K hK) | (refine dA ?_;intro K hK) | (with_reducible refine hK _ ?_;clear hK K) | (refine stq ?_;simp (disch:=(first | omega | (simp;omega))) only [go_sem,w64,lpD]) | refine as1 ?_ | fail)
 (first | refine callA (implLpA A B C hA hr hB hC) ?_ | refine callD (implLpA A B C hA hr hB hC) ?_ | refine callE (implLpA A B C hA hr hB hC) ?_ | refine callF (implLpA A B C hA hr hB hC) ?_ ?_)
 cases h:lpV A B C with
 | false =>
  repeat' (first | refine sq ?_ | refine stp ?_ | refine blk_o (by decide) ?_ | (apply cb;(focus (simp (disch:=(first | omega | (simp;omega))) only [go_sem,w64,h];try exact rfl));refine cok ?_) | (refine rgT ?_;intro K hK) | (refine dA ?_;intro K hK) | (with_reducible refine hK _ ?_;clear hK K) | (refine stq ?_;simp (disch:=(first | omega | (simp;omega))) only [go_sem,w64,h]) | refine as1 ?_ | fail)
  refine endA (r:=.tup [.d (.agg [.sl 1 [],.sl 2 [],.sl 2 []]),.d (.bool false)]) (h:=(by simp (disch:=(first | omega | (simp;omega))) only [go_sem,w64];exact noLp)) ?_
  exact ⟨by unfold dlF;rw [if_neg (by rw [h];simp)];rfl,rfl⟩
 | true =>
  obtain ⟨⟨c1,c2⟩,⟨b1,b2⟩,hmo,_,_⟩:=lpV_out h
  have ht:=implTransA A B.length C.length hmo (by omega) (by omega)
  have hBm:(B.map ratDV).length=B.length:=List.length_map ..
  have hCm:(C.map ratDV).length=C.length:=List.length_map ..
  have hc1:=implCopyD C hC
  have hc2:=implCopyD B hB
  repeat' (first | refine sq ?_ | refine stp ?_ | refine blk_o (by decide) ?_ | (apply cb;(focus (simp (disch:=(first | omega | (simp;omega))) only [go_sem,w64,h,lpD,matD];try exact rfl));refine cok ?_) | (refine rgT ?_;intro K hK) | (refine dA ?_;intro K hK) | (with_reducible refine hK _ ?_;clear hK K) | (refine stq ?_;simp (disch:=(first | omega | (simp;omega))) only [go_sem,w64,h,lpD,matD]) | refine as1 ?_ | fail)
  (first | refine callA (ht) ?_ | refine callD (ht) ?_ | refine callE (ht) ?_ | refine callF (ht) ?_ ?_)
  repeat' (first | refine sq ?_ | refine stp ?_ | refine blk_o (by decide) ?_ | (apply cb;(focus (simp (disch:=(first | omega | (simp;omega))) only [go_sem,w64,matD,ratsD];try exact rfl));refine cok ?_) | (refine rgT ?_;intro K hK) | (refine dA ?_;intro K hK) | (with_reducible refine hK _ ?_;clear hK K) | (refine stq ?_;simp (disch:=(first | omega | (simp;omega))) only [go_sem,w64,matD,ratsD]) | refine as1 ?_ | fail)
  (first | refine callA (hc1) ?_ | refine callD (hc1) ?_ | refine callE (hc1) ?_ | refine callF (hc1) ?_ ?_)
  repeat' (first | refine sq ?_ | refine stp ?_ | refine blk_o (by decide) ?_ | (apply cb;(focus (simp (disch:=(first | omega | (simp;omega))) only [go_sem,w64,ratsD];try exact rfl));refine cok ?_) | (refine rgT ?_;intro K hK) | (refine dA ?_;intro K hK) | (with_reducible refine hK _ ?_;clear hK K) | (refine stq ?_;simp (disch:=(first | omega | (simp;omega))) only [go_sem,w64,ratsD]) | refine as1 ?_ | fail)
  (first | refine callA (hc2) ?_ | refine callD (hc2) ?_ | refine callE (hc2) ?_ | refine callF (hc2) ?_ ?_)
  repeat' (first | refine sq ?_ | refine stp ?_ | refine blk_o (by decide) ?_ | (apply cb;(focus (simp (disch:=(first | omega | (simp;omega))) only [go_sem,w64,ratsD];try exact rfl));refine cok ?_) | (refine rgT ?_;intro K hK) | (refine dA ?_;intro K hK) | (with_reducible refine hK _ ?_;clear hK K) | (refine stq ?_;simp (disch:=(first | omega | (simp;omega))) only [go_sem,w64,ratsD]) | refine as1 ?_ | fail)
  (refine endA (r:=.tup [.d (.agg [matD (trQ A C.length),ratsD C,ratsD B]),.d (.bool true)]) ?_)
  exact ⟨by unfold dlF;rw [if_pos h];rfl,rfl⟩
omit hr in
set_option maxHeartbeats 4000000 in
theorem specDualA:AFn 41 [.d (lpD A B C)] [] (fun r os=>r=ansP (dlF A B C)∧os=[]):=by
 refine afn_of (rv:=[.cell 2 30,.tmp 3]) tyT_ok Tryd.func41 rfl (by decide +kernel) Tryd.ntmps41 rfl (by simp) ?_
 repeat' (first | refine sq ?_ | refine stp ?_ | refine blk_o (by decide) ?_ | (apply cb;(focus (simp (disch:=(first | omega | (simp;omega))) only [go_sem,w64,lpD];try exact rfl));refine cok ?_) | (refine rgT ?_;intro K hK) | (refine dA ?_;intro K hK) | (with_reducible refine hK _ ?_;clear hK K) | (refine stq ?_;simp (disch:=(first | omega | (simp;omega))) only [go_sem,w64,lpD]) | refine as1 ?_ | fail)
 (first | refine callA (specLpA A B C hA hB hC) ?_ | refine callD (specLpA A B C hA hB hC) ?_ | refine callE (specLpA A B C hA hB hC) ?_ | refine callF (specLpA A B C hA hB hC) ?_ ?_)
 cases h:lpV A B C with
 | false =>
  repeat' (first | refine sq ?_ | refine stp ?_ | refine blk_o (by decide) ?_ | (apply cb;(focus (simp (disch:=(first | omega | (simp;omega))) only [go_sem,w64,h];try exact rfl));refine cok ?_) | (refine rgT ?_;intro K hK) | (refine dA ?_;intro K hK) | (with_reducible refine hK _ ?_;clear hK K) | (refine stq ?_;simp (disch:=(first | omega | (simp;omega))) only [go_sem,w64,h]) | refine as1 ?_ | fail)
  refine endA (r:=.tup [.d (.agg [.sl 1 [],.sl 2 [],.sl 2 []]),.d (.bool false)]) (h:=(by simp (disch:=(first | omega | (simp;omega))) only [go_sem,w64];exact noLp)) ?_
  exact ⟨by unfold dlF;rw [if_neg (by rw [h];simp)];rfl,rfl⟩
 | true =>
  obtain ⟨⟨c1,c2⟩,⟨b1,b2⟩,hmo,_,_⟩:=lpV_out h
  have ht:=specTransA A B.length C.length hmo (by omega) (by omega)
  have hBm:(B.map ratDV).length=B.length:=List.length_map ..
  have hCm:(C.map ratDV).length=C.length:=List.length_map ..
  repeat' (first | refine sq ?_ | refine stp ?_ | refine blk_o (by decide) ?_ | (apply cb;(focus (simp (disch:=(first | omega | (simp;omega))) only [go_sem,w64,h,lpD,matD];try exact rfl));refine cok ?_) | (refine rgT ?_;intro K hK) | (refine dA ?_;intro K hK) | (with_reducible refine hK _ ?_;clear hK K) | (refine stq ?_;simp (disch:=(first | omega | (simp;omega))) only [go_sem,w64,h,lpD,matD]) | refine as1 ?_ | fail)
  (first | refine callA (ht) ?_ | refine callD (ht) ?_ | refine callE (ht) ?_ | refine callF (ht) ?_ ?_)
  repeat' (first | refine sq ?_ | refine stp ?_ | refine blk_o (by decide) ?_ | (apply cb;(focus (simp (disch:=(first | omega | (simp;omega))) only [go_sem,w64,matD,ratsD,List.nil_append,hBm,hCm];try exact rfl));refine cok ?_) | (refine rgT ?_;intro K hK) | (refine dA ?_;intro K hK) | (with_reducible refine hK _ ?_;clear hK K) | (refine stq ?_;simp (disch:=(first | omega | (simp;omega))) only [go_sem,w64,matD,ratsD,List.nil_append,hBm,hCm]) | refine as1 ?_ | fail)
  (refine endA (r:=.tup [.d (.agg [matD (trQ A C.length),ratsD C,ratsD B]),.d (.bool true)]) ?_)
  exact ⟨by unfold dlF;rw [if_pos h];rfl,rfl⟩
end
end Go.Proofs.YteiaofkgbdlpoaaDoor
namespace Go.Proofs.YteiaofkgbdlpoaaDoor
set_option linter.unusedSimpArgs false
set_option linter.unusedVariables false
attribute [local go_sem ↓] reduceIte
attribute [local go_sem] Nat.reduceEqDiff Nat.reduceLT Nat.reduceAdd Nat.reduceLeDiff Nat.reduceMul Nat.reduceBEq Nat.reduceSub reduceCtorEq Int.reduceLE Int.reduceNeg Int.reduceLT
open Go.RowKit
end Go.Proofs.YteiaofkgbdlpoaaDoor
namespace Go.Proofs.YteiaofkgbdlpoaaDoor
set_option linter.unusedSimpArgs false
set_option linter.unusedVariables false
open Go.RowKit
noncomputable def occ (xs:List Int) (v:Int):Bool:=decide (0≤findF xs v)
theorem occ_at {xs:List Int} {v:Int} {i:Nat} (hi:i<xs.length) (h:ix xs i=v) (hn:∀ j,j<i→ix xs j ≠ v):occ xs v=true:=by
 unfold occ;rw [findF_eq hi h hn];simp
theorem occ_none {xs:List Int} {v:Int} (h:∀ i,i<xs.length→ix xs i ≠ v):occ xs v=false:=by
 unfold occ;rw [findF_none h];simp
set_option maxHeartbeats 800000 in
theorem implHasVar {fz:Bool} {lo hi:Nat} (s:ByteArray) (a:Option Addr) (n c:Nat) (xs:List Int) (v:Int) (w:World) (hI:IntsA fz lo hi w a n c xs) (hh:hi≤w.heap.size) :
 Calls Tryd.prog 54 #[atomV s a n c,.int .i64 v] w (Leaves w (.bool (occ xs v))):=by
 go_enter Tryd.func54,Tryd.ntmps54
 go_wp2_with fail
 refine (implHasInt a n c xs v _ (beInts (B:=w.heap.size) hI belA hh)).mono ?_
 rintro e w1 ⟨rfl,m1,rfl⟩
 go_wp2_with fail
 go_ret
 exact ⟨rfl,belA⟩
set_option maxHeartbeats 800000 in
theorem specHasVar {fz:Bool} {lo hi:Nat} (s:ByteArray) (a:Option Addr) (n c:Nat) (xs:List Int) (v:Int) (w:World) (hI:IntsA fz lo hi w a n c xs) (hh:hi≤w.heap.size) :
 Calls Tryd.prog 26 #[atomV s a n c,.int .i64 v] w (Leaves w (.bool (occ xs v))):=by
 have hl:=hI.len
 have hs:=hI.small
 have HL:=hid hl;clear hl
 obtain ⟨W,hW⟩:∃ W,W=w.alloc (.cells #[.string s,.slice a n c] 54):=⟨_,rfl⟩
 have hBW:Below w.heap.size w W:=by rw [hW];exact belA
 have c1:W.cell? ⟨w.heap.size,1,none⟩=some (.slice a n c):=by rw [hW];simp
 have hIW:=beInts hI hBW hh
 have HW:=hid (And.intro hW hBW);clear hW hBW hI
 go_enter Tryd.func26,Tryd.ntmps26
 go_upto_region 1 with fail
 rw [← HW.out.1]
 go_wp2_with fail
 go_loop [5] (fun i=>∃ k:Nat,i=.int .i64 k∧k≤n∧Hid (∀ j,j<k→ix xs j ≠ v)) (fun i=>n - (intOf i).toNat)
 case atStart=>exact ⟨0,rfl,by omega,hid (fun j hj=>by omega)⟩
 case round =>
  obtain ⟨k,rfl,hk,HT⟩:=hrel
  by_cases hlt:k<n
  ·obtain ⟨b,off,rfl,_,_,hc,_⟩:=hIW.open (by omega)
   have c2:=hc k hlt
   clear hc
   generalize hx:ix xs k=x at *
   have HX:=hid hx;clear hx
   by_cases he:x=v
   ·have hb:(x == v)=true:=by simp [he]
    have HF:=hid (occ_at (xs:=xs) (v:=v) (i:=k) (by rw [HL.out];exact hlt) (by rw [HX.out];exact he) HT.out)
    have HE:=hid he;clear he
    go_wp2_with fail
    go_ret
    exact ⟨by rw [HF.out];rfl,HW.out.2⟩
   ·have hb:(x == v)=false:=by simp [he]
    have HT2:Hid (∀ j,j<k+1→ix xs j ≠ v):=hid (fun j hj=>by
     by_cases e:j=k
     ·subst e;rw [HX.out];exact he
     ·exact HT.out j (by omega))
    have HE:=hid he;clear he
    go_wp2_with fail
    go_round
    case rel=>exact ⟨k+1,by go_num,by omega,HT2⟩
    case measure=>simp [intOf];omega
  ·have HF:=hid (occ_none (xs:=xs) (v:=v) (by rw [HL.out];intro j hj;exact HT.out j (by omega)))
   go_wp2_with fail
   go_ret
   exact ⟨by rw [HF.out];rfl,HW.out.2⟩
noncomputable def avTo (xs:List Int):Nat→List Int
 | 0=>[]
 | k+1=>if occ xs k=true then avTo xs k ++ [(k:Int)] else avTo xs k
end Go.Proofs.YteiaofkgbdlpoaaDoor
