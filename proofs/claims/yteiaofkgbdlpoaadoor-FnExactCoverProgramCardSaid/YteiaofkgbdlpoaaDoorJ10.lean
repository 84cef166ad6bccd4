/- Lemmas for the proof of FnExactMaximumPacking, part 10 of 15: no condition of their own. -/
import Derived.Test.YteiaofkgbdlpoaaDoorJ9
import Derived.Test.YteiaofkgbdlpoaaDoorJ1
import Derived.Deep.RegionLaw
import Derived.Deep.AppendLies
import Derived.Test.YteiaofkgbdlpoaaDoorJ2
import Derived.Deep.Slices
import Derived.Test.YteiaofkgbdlpoaaDoorJ8
import Derived.Deep.CutBlock
import Derived.Deep.DeepCutAuto
namespace Go.Proofs.YteiaofkgbdlpoaaDoor
set_option linter.unusedSimpArgs false
set_option linter.unusedVariables false
open Go.RowKit
abbrev lpVal (a:Option Addr) (n:Nat) (c:Nat) (ba:Option Addr) (bn:Nat) (bc:Nat) (ca:Option Addr) (cn:Nat) (cc:Nat):Value:=.agg #[.slice a n c,.slice ba bn bc,.slice ca cn cc]
def LPA (fz:Bool) (lo hi:Nat) (w:World) (a:Option Addr) (n:Nat) (c:Nat) (xs:List (List RatD)) (ba:Option Addr) (bn:Nat) (bc:Nat) (bs:List RatD) (ca:Option Addr) (cn:Nat) (cc:Nat) (cs:List RatD):Prop:=MatA fz (lo) hi w a n c xs∧RatsA fz (lo) hi w ba bn bc bs∧RatsA fz (lo) hi w ca cn cc cs
theorem beLP {fz:Bool} {lo hi B:Nat} {w w':World} {a:Option Addr} {n:Nat} {c:Nat} {xs:List (List RatD)} {ba:Option Addr} {bn:Nat} {bc:Nat} {bs:List RatD} {ca:Option Addr} {cn:Nat} {cc:Nat} {cs:List RatD} (h:LPA fz lo hi w a n c xs ba bn bc bs ca cn cc cs) (hb:Below B w w') (hh:hi≤B):LPA fz lo hi w' a n c xs ba bn bc bs ca cn cc cs:=⟨beMat h.1 hb hh,beRats h.2.1 hb hh,beRats h.2.2 hb hh⟩
theorem kpLP {fz:Bool} {lo hi:Nat} {w w':World} {a:Option Addr} {n:Nat} {c:Nat} {xs:List (List RatD)} {ba:Option Addr} {bn:Nat} {bc:Nat} {bs:List RatD} {ca:Option Addr} {cn:Nat} {cc:Nat} {cs:List RatD} (h:LPA fz lo hi w a n c xs ba bn bc bs ca cn cc cs) (hb:Keeps lo hi w w'):LPA fz lo hi w' a n c xs ba bn bc bs ca cn cc cs:=⟨kpMat h.1 hb,kpRats h.2.1 hb,kpRats h.2.2 hb⟩
def szLP (xs:List (List RatD)) (bs:List RatD) (cs:List RatD):Nat:=matSz xs+bs.length+cs.length
set_option maxHeartbeats 1600000 in
theorem eqK_LP {fz fz':Bool} {lo hi lo' hi':Nat} (a:Option Addr) (n:Nat) (c:Nat) (xs:List (List RatD)) (ba:Option Addr) (bn:Nat) (bc:Nat) (bs:List RatD) (ca:Option Addr) (cn:Nat) (cc:Nat) (cs:List RatD) (a_:Option Addr) (n_:Nat) (c_:Nat) (ba_:Option Addr) (bn_:Nat) (bc_:Nat) (ca_:Option Addr) (cn_:Nat) (cc_:Nat) (w:World) (hI:LPA fz lo hi w a n c xs ba bn bc bs ca cn cc cs) (hh:hi≤w.heap.size) (hJ:LPA fz' lo' hi' w a_ n_ c_ xs ba_ bn_ bc_ bs ca_ cn_ cc_ cs) (hh':hi'≤w.heap.size) :
 Calls Tryd.prog 10 #[lpVal a n c ba bn bc ca cn cc,lpVal a_ n_ c_ ba_ bn_ bc_ ca_ cn_ cc_] w (Leaves w (.bool true)):=by
 have DF0:=hid hI.1
 have DG0:=hid hJ.1
 have DF1:=hid hI.2.1
 have DG1:=hid hJ.2.1
 have DF2:=hid hI.2.2
 have DG2:=hid hJ.2.2
 clear hI hJ
 go_enter Tryd.func10,Tryd.ntmps10
 go_wp2_with fail
 refine (eqMat a a_ n c n_ c_ xs _ (beMat (B:=w.heap.size) DF0.out belA leA) leA (beMat (B:=w.heap.size) DG0.out belA leA) leA).mono ?_
 rintro e u1 ⟨rfl,hb⟩
 have hc:Below w.heap.size w u1:=Below.trans belA (hb.mono leA)
 have z1:w.heap.size≤u1.heap.size:=hc.size
 have B0c0:u1.cell? ⟨w.heap.size,0,none⟩=some (.slice a n c):=(by rw [(bcell hb).1 _ _ (by first | omega | (simp;done) | (simp;omega))];first | with_reducible assumption | (go_simp;done) | assumption | (simp [World.cell?];done))
 have B0c1:u1.cell? ⟨w.heap.size,1,none⟩=some (.slice ba bn bc):=(by rw [(bcell hb).1 _ _ (by first | omega | (simp;done) | (simp;omega))];first | with_reducible assumption | (go_simp;done) | assumption | (simp [World.cell?];done))
 have B0c2:u1.cell? ⟨w.heap.size,2,none⟩=some (.slice ca cn cc):=(by rw [(bcell hb).1 _ _ (by first | omega | (simp;done) | (simp;omega))];first | with_reducible assumption | (go_simp;done) | assumption | (simp [World.cell?];done))
 have B0p:w.heap.size<u1.heap.size:=World.block_lt_of_cell? _ _ B0c0
 have B0s:w.heap.size<u1.heap.size:=B0p
 have B1c0:u1.cell? ⟨w.heap.size+1,0,none⟩=some (.slice a_ n_ c_):=(by rw [(bcell hb).1 _ _ (by first | omega | (simp;done) | (simp;omega))];first | with_reducible assumption | (go_simp;done) | assumption | (simp [World.cell?];done))
 have B1c1:u1.cell? ⟨w.heap.size+1,1,none⟩=some (.slice ba_ bn_ bc_):=(by rw [(bcell hb).1 _ _ (by first | omega | (simp;done) | (simp;omega))];first | with_reducible assumption | (go_simp;done) | assumption | (simp [World.cell?];done))
 have B1c2:u1.cell? ⟨w.heap.size+1,2,none⟩=some (.slice ca_ cn_ cc_):=(by rw [(bcell hb).1 _ _ (by first | omega | (simp;done) | (simp;omega))];first | with_reducible assumption | (go_simp;done) | assumption | (simp [World.cell?];done))
 have B1p:w.heap.size+1<u1.heap.size:=World.block_lt_of_cell? _ _ B1c0
 have B1s:w.heap.size+1<u1.heap.size:=B1p
 replace DF0:Hid (MatA fz (lo) hi u1 a n c xs):=hid (beMat DF0.out hc (by omega))
 replace DG0:Hid (MatA fz' (lo') hi' u1 a_ n_ c_ xs):=hid (beMat DG0.out hc (by omega))
 replace DF1:Hid (RatsA fz (lo) hi u1 ba bn bc bs):=hid (beRats DF1.out hc (by omega))
 replace DG1:Hid (RatsA fz' (lo') hi' u1 ba_ bn_ bc_ bs):=hid (beRats DG1.out hc (by omega))
 replace DF2:Hid (RatsA fz (lo) hi u1 ca cn cc cs):=hid (beRats DF2.out hc (by omega))
 replace DG2:Hid (RatsA fz' (lo') hi' u1 ca_ cn_ cc_ cs):=hid (beRats DG2.out hc (by omega))
 have HW:=hid hc
 clear hb hc
 go_wp2_with fail
 refine (eqRats ba ba_ bn bc bn_ bc_ bs _ (beRats (B:=u1.heap.size) DF1.out belA leA) leA (beRats (B:=u1.heap.size) DG1.out belA leA) leA).mono ?_
 rintro e u2 ⟨rfl,hb⟩
 have hc:Below u1.heap.size u1 u2:=Below.trans belA (hb.mono leA)
 have z2:u1.heap.size≤u2.heap.size:=hc.size
 replace B0c0:u2.cell? ⟨w.heap.size,0,none⟩=some (.slice a n c):=(by rw [(bcell hc).1 _ _ B0s];exact B0c0)
 replace B0c1:u2.cell? ⟨w.heap.size,1,none⟩=some (.slice ba bn bc):=(by rw [(bcell hc).1 _ _ B0s];exact B0c1)
 replace B0c2:u2.cell? ⟨w.heap.size,2,none⟩=some (.slice ca cn cc):=(by rw [(bcell hc).1 _ _ B0s];exact B0c2)
 replace B0s:w.heap.size<u2.heap.size:=(by omega)
 replace B1c0:u2.cell? ⟨w.heap.size+1,0,none⟩=some (.slice a_ n_ c_):=(by rw [(bcell hc).1 _ _ B1s];exact B1c0)
 replace B1c1:u2.cell? ⟨w.heap.size+1,1,none⟩=some (.slice ba_ bn_ bc_):=(by rw [(bcell hc).1 _ _ B1s];exact B1c1)
 replace B1c2:u2.cell? ⟨w.heap.size+1,2,none⟩=some (.slice ca_ cn_ cc_):=(by rw [(bcell hc).1 _ _ B1s];exact B1c2)
 replace B1s:w.heap.size+1<u2.heap.size:=(by omega)
 replace DF0:Hid (MatA fz (lo) hi u2 a n c xs):=hid (beMat DF0.out hc (by omega))
 replace DG0:Hid (MatA fz' (lo') hi' u2 a_ n_ c_ xs):=hid (beMat DG0.out hc (by omega))
 replace DF1:Hid (RatsA fz (lo) hi u2 ba bn bc bs):=hid (beRats DF1.out hc (by omega))
 replace DG1:Hid (RatsA fz' (lo') hi' u2 ba_ bn_ bc_ bs):=hid (beRats DG1.out hc (by omega))
 replace DF2:Hid (RatsA fz (lo) hi u2 ca cn cc cs):=hid (beRats DF2.out hc (by omega))
 replace DG2:Hid (RatsA fz' (lo') hi' u2 ca_ cn_ cc_ cs):=hid (beRats DG2.out hc (by omega))
 replace HW:Hid (Below w.heap.size w u2):=hid (Below.calm HW.out hc)
 clear hb hc
 go_wp2_with fail
 refine (eqRats ca ca_ cn cc cn_ cc_ cs _ (beRats (B:=u2.heap.size) DF2.out belA leA) leA (beRats (B:=u2.heap.size) DG2.out belA leA) leA).mono ?_
 rintro e u3 ⟨rfl,hb⟩
 have hc:Below u2.heap.size u2 u3:=Below.trans belA (hb.mono leA)
 have z3:u2.heap.size≤u3.heap.size:=hc.size
 replace B0c0:u3.cell? ⟨w.heap.size,0,none⟩=some (.slice a n c):=(by rw [(bcell hc).1 _ _ B0s];exact B0c0)
 replace B0c1:u3.cell? ⟨w.heap.size,1,none⟩=some (.slice ba bn bc):=(by rw [(bcell hc).1 _ _ B0s];exact B0c1)
 replace B0c2:u3.cell? ⟨w.heap.size,2,none⟩=some (.slice ca cn cc):=(by rw [(bcell hc).1 _ _ B0s];exact B0c2)
 replace B0s:w.heap.size<u3.heap.size:=(by omega)
 replace B1c0:u3.cell? ⟨w.heap.size+1,0,none⟩=some (.slice a_ n_ c_):=(by rw [(bcell hc).1 _ _ B1s];exact B1c0)
 replace B1c1:u3.cell? ⟨w.heap.size+1,1,none⟩=some (.slice ba_ bn_ bc_):=(by rw [(bcell hc).1 _ _ B1s];exact B1c1)
 replace B1c2:u3.cell? ⟨w.heap.size+1,2,none⟩=some (.slice ca_ cn_ cc_):=(by rw [(bcell hc).1 _ _ B1s];exact B1c2)
 replace B1s:w.heap.size+1<u3.heap.size:=(by omega)
 replace DF0:Hid (MatA fz (lo) hi u3 a n c xs):=hid (beMat DF0.out hc (by omega))
 replace DG0:Hid (MatA fz' (lo') hi' u3 a_ n_ c_ xs):=hid (beMat DG0.out hc (by omega))
 replace DF1:Hid (RatsA fz (lo) hi u3 ba bn bc bs):=hid (beRats DF1.out hc (by omega))
 replace DG1:Hid (RatsA fz' (lo') hi' u3 ba_ bn_ bc_ bs):=hid (beRats DG1.out hc (by omega))
 replace DF2:Hid (RatsA fz (lo) hi u3 ca cn cc cs):=hid (beRats DF2.out hc (by omega))
 replace DG2:Hid (RatsA fz' (lo') hi' u3 ca_ cn_ cc_ cs):=hid (beRats DG2.out hc (by omega))
 replace HW:Hid (Below w.heap.size w u3):=hid (Below.calm HW.out hc)
 clear hb hc
 go_wp2_with fail
 go_ret
 exact ⟨rfl,HW.out⟩
def cntLP (xs:List (List RatD)) (bs:List RatD) (cs:List RatD):Nat:=(mlens xs xs.length*2)+(bs.length*2)+(cs.length*2)
end Go.Proofs.YteiaofkgbdlpoaaDoor
namespace Go.Proofs.YteiaofkgbdlpoaaDoor
set_option linter.unusedSimpArgs false
set_option linter.unusedVariables false
open Go.RowKit
def ValsA (lo hi:Nat) (w:World) (a:Option Addr) (n c:Nat) (vs:List Value):Prop :=
 vs.length=n∧n≤c∧c≤maxLen∧(∀ u∈vs,u.oneCell'=true)∧(0<n→∃ b off,a=some ⟨b,off,none⟩∧lo≤b∧b<hi∧∀ i u,vs[i]? = some u→w.cell? ⟨b,off+i,none⟩=some u)∧(a=none→c=0)
section
variable {lo hi:Nat} {w w':World} {a:Option Addr} {n c:Nat} {vs:List Value}
theorem ValsA.len (h:ValsA lo hi w a n c vs):vs.length=n:=h.1
theorem ValsA.keep (h:ValsA lo hi w a n c vs) (hk:Keeps lo hi w w'):ValsA lo hi w' a n c vs:=by
 obtain ⟨h1,h2,h3,h4,h5,h6⟩:=h
 refine ⟨h1,h2,h3,h4,fun hn=>?_,h6⟩
 obtain ⟨b,off,ha,hl,hb,hc⟩:=h5 hn
 exact ⟨b,off,ha,hl,hb,fun i u hu=>by rw [World.cell?_of_block (w:=w) (hk b hl hb)];exact hc i u hu⟩
theorem ValsA.wide {lo' hi':Nat} (h:ValsA lo hi w a n c vs) (h1:lo'≤lo) (h2:hi≤hi'):ValsA lo' hi' w a n c vs:=by
 obtain ⟨g1,g2,g3,g4,g5,g6⟩:=h
 refine ⟨g1,g2,g3,g4,fun hn=>?_,g6⟩
 obtain ⟨b,off,ha,hl,hb,hc⟩:=g5 hn
 exact ⟨b,off,ha,by omega,by omega,hc⟩
theorem ValsA.open (h:ValsA lo hi w a n c vs) (hn:0<n):∃ b off,a=some ⟨b,off,none⟩∧lo≤b∧b<hi∧∀ i u,vs[i]? = some u→w.cell? ⟨b,off+i,none⟩=some u:=h.2.2.2.2.1 hn
end
def OwnV (e:TypeId) (base:Nat) (w:World) (a:Option Addr) (n c:Nat) (vs:List Value):Prop:=w.ownsRow base e 1 (.slice a n c) n vs∧∀ u∈vs,u.oneCell'=true
theorem OwnV.len {e:TypeId} {base:Nat} {w:World} {a:Option Addr} {n c:Nat} {vs:List Value} (h:OwnV e base w a n c vs):vs.length=n:=by
 have:=h.1.1;omega
theorem OwnV.vals {e:TypeId} {base:Nat} {w:World} {a:Option Addr} {n c:Nat} {vs:List Value} (h:OwnV e base w a n c vs):ValsA base w.heap.size w a n c vs:=by
 have hlen:=h.len
 obtain ⟨ho,h1c⟩:=h
 have ho':=ho
 obtain ⟨h1,h2⟩:=ho
 rcases h2 with ⟨h2,h3⟩ | ⟨g,cap,cur,hv,hb,hg,hnc,hcm,hcs,htake⟩
 ·simp only [Value.slice.injEq] at h2
  obtain ⟨rfl,rfl,rfl⟩:=h2
  exact ⟨hlen,Nat.zero_le _,by simp [maxLen],h1c,fun h=>by omega,fun _=>rfl⟩
 ·simp only [Value.slice.injEq] at hv
  obtain ⟨rfl,_,rfl⟩:=hv
  refine ⟨hlen,hnc,hcm,h1c,fun _=>⟨g,0,rfl,hb,(Array.getElem?_eq_some_iff.1 hg).1,fun i u hu=>?_⟩,fun h=>(by cases h)⟩
  have h5:=ho'.cells (g:=g) rfl i u hu
  rwa [Addr.add_lit] at h5
theorem OwnV.keep {e:TypeId} {base:Nat} {w w':World} {a:Option Addr} {n c:Nat} {vs:List Value} (h:OwnV e base w a n c vs) (hk:Keeps base w.heap.size w w'):OwnV e base w' a n c vs:=by
 obtain ⟨⟨h1,h2⟩,h64⟩:=h
 refine ⟨⟨h1,?_⟩,h64⟩
 rcases h2 with h2 | ⟨g,cap,cur,hv,hb,hg,rest⟩
 ·exact .inl h2
 ·exact .inr ⟨g,cap,cur,hv,hb,by rw [hk g hb (Array.getElem?_eq_some_iff.1 hg).1];exact hg,rest⟩
structure Elem (t e:TypeId) (bytes:Nat):Prop where
 under:Tryd.prog.underlying t=some (.slice e)
 info:∃ i z,Tryd.prog.info? e=some i∧i.zero=some z∧i.size=1∧i.bytes=bytes∧z.cells.size=1
 small:bytes≤4096
end Go.Proofs.YteiaofkgbdlpoaaDoor
namespace Go.Proofs.YteiaofkgbdlpoaaDoor
set_option linter.unusedSimpArgs false
set_option linter.unusedVariables false
open Go.RowKit
abbrev RowP (α:Type):=Nat→Nat→World→Option Addr→Nat→Nat→α→Prop
structure RowPOK {α:Type} (Q:RowP α):Prop where
 keep:∀ {lo hi w w' a n c x},Q lo hi w a n c x→Keeps lo hi w w'→Q lo hi w' a n c x
 wide:∀ {lo hi lo' hi' w a n c x},Q lo hi w a n c x→lo'≤lo→hi≤hi'→Q lo' hi' w a n c x
def HeadI (w:World) (s t:Nat):Prop:=s<t→t=s+1∧∃ z:Int,w.cell? ⟨s,0,none⟩=some (.int .i64 z)
theorem HeadI.keep {w w':World} {s t lo hi:Nat} (h:HeadI w s t) (hk:Keeps lo hi w w') (h1:lo≤s) (h2:t≤hi):HeadI w' s t:=fun hlt=>by
 obtain ⟨g1,z,g2⟩:=h hlt
 exact ⟨g1,z,by rw [World.cell?_of_block (w:=w) (hk s h1 (by omega))];exact g2⟩
def SepV {α:Type} (Q:RowP α) (lo hi:Nat) (w:World) (vs:List Value) (xss:List α):Prop :=
 vs.length=xss.length∧∃ s t:Nat→Nat,(∀ i,i<xss.length→lo≤s i∧t i≤hi∧HeadI w (s i) (t i)∧∃ ra rn rc x,xss[i]? = some x∧vs[i]? = some (.slice ra rn rc)∧Q (s i) (t i) w ra rn rc x) ∧
  ∀ i j,i<xss.length→j<xss.length→i ≠ j→t i≤s j∨t j≤s i
section
variable {α:Type} {Q:RowP α} {lo hi lo' hi':Nat} {w w':World} {vs:List Value} {xss:List α}
theorem SepV.nil (Q:RowP α) (lo hi:Nat) (w:World):SepV Q lo hi w [] []:=⟨rfl,fun _=>0,fun _=>0,fun i hi=>by simp at hi,fun i j hi=>by simp at hi⟩
theorem SepV.keep (ok:RowPOK Q) (h:SepV Q lo hi w vs xss) (hk:Keeps lo hi w w'):SepV Q lo hi w' vs xss:=by
 obtain ⟨h1,s,t,h2,h3⟩:=h
 refine ⟨h1,s,t,fun i hi=>?_,h3⟩
 obtain ⟨g1,g2,g0,ra,rn,rc,x,g3,g4,g5⟩:=h2 i hi
 exact ⟨g1,g2,g0.keep hk g1 g2,ra,rn,rc,x,g3,g4,ok.keep g5 (hk.mono g1 g2)⟩
theorem SepV.wide (h:SepV Q lo hi w vs xss) (hl:lo'≤lo) (hh:hi≤hi'):SepV Q lo' hi' w vs xss:=by
 obtain ⟨h1,s,t,h2,h3⟩:=h
 refine ⟨h1,s,t,fun i hi=>?_,h3⟩
 obtain ⟨g1,g2,g⟩:=h2 i hi
 exact ⟨by omega,by omega,g⟩
theorem SepV.snoc (h:SepV Q lo hi w vs xss) {s' t':Nat} {ra:Option Addr} {rn rc:Nat} {x:α} (hx:Q s' t' w ra rn rc x) (hd:HeadI w s' t') (hl:lo≤s') (hs:hi≤s') (ht:t'≤hi') (hh:hi≤hi'):SepV Q lo hi' w (vs ++ [.slice ra rn rc]) (xss ++ [x]):=by
 obtain ⟨h1,s,t,h2,h3⟩:=h
 refine ⟨by simp [h1],fun i=>if i=xss.length then s' else s i,fun i=>if i=xss.length then t' else t i,fun i hi=>?_,fun i j hi hj hij=>?_⟩
 ·by_cases e:i=xss.length
  ·subst e
   simp only [if_true]
   exact ⟨hl,ht,hd,ra,rn,rc,x,by simp,by rw [← h1];simp,hx⟩
  ·simp only [if_neg e]
   have hi':i<xss.length:=by simp at hi;omega
   obtain ⟨g1,g2,g0,ra',rn',rc',y,g3,g4,g5⟩:=h2 i hi'
   exact ⟨g1,by omega,g0,ra',rn',rc',y,by rw [List.getElem?_append_left hi'];exact g3,by rw [List.getElem?_append_left (by omega)];exact g4,g5⟩
 ·simp at hi hj
  by_cases e:i=xss.length
  ·have e':j ≠ xss.length:=by omega
   simp only [if_pos e,if_neg e']
   have:=h2 j (by omega)
   omega
  ·by_cases e':j=xss.length
   ·simp only [if_neg e,if_pos e']
    have:=h2 i (by omega)
    omega
   ·simp only [if_neg e,if_neg e']
    exact h3 i j (by omega) (by omega) hij
theorem SepV.one (h:SepV Q lo hi w vs xss):∀ u∈vs,u.oneCell'=true:=by
 obtain ⟨h1,s,t,h2,_⟩:=h
 intro u hu
 obtain ⟨i,hi,rfl⟩:=List.getElem_of_mem hu
 obtain ⟨_,_,_,ra,rn,rc,x,_,g4,_⟩:=h2 i (by omega)
 rw [List.getElem?_eq_getElem hi] at g4
 rw [Option.some.inj g4];rfl
theorem SepV.grown (ok:RowPOK Q) {e:TypeId} {base:Nat} {a:Option Addr} {n c:Nat} (h:SepV Q lo hi w vs xss) (ho:OwnV e base w a n c vs) (hg:w.grownBy w' (Value.slice a n c).ownBlock) (hh:hi≤w.heap.size):SepV Q lo hi w' vs xss:=by
 obtain ⟨h1,s,t,h2,h3⟩:=h
 have hlen:=ho.len
 have key:∀ i,i<xss.length→Keeps (s i) (t i) w w':=by
  intro i hi k hk1 hk2
  obtain ⟨g1,g2,g0,_⟩:=h2 i hi
  obtain ⟨ht,z,hz⟩:=g0 (by omega)
  obtain rfl:k=s i:=by omega
  refine hg.block _ (by omega) ?_
  intro e'
  have hn:0<n:=by omega
  obtain ⟨b,off,hb,_,_,hc⟩:=ho.vals.open hn
  have h0:=ho.1.2
  rcases h0 with ⟨h0,_⟩ | ⟨g,cap,cur,hv,_⟩
  ·simp only [Value.slice.injEq] at h0;omega
  ·simp only [Value.slice.injEq] at hv
   obtain ⟨rfl,_,rfl⟩:=hv
   simp only [Option.some.injEq,Addr.mk.injEq,and_true] at hb
   obtain ⟨rfl,rfl⟩:=hb
   simp only [Value.ownBlock,Option.some.injEq] at e'
   obtain ⟨_,_,_,ra,rn,rc,x,_,f4,_⟩:=h2 0 (by omega)
   have:=hc 0 _ f4
   rw [← e',Nat.zero_add,hz] at this
   cases this
 refine ⟨h1,s,t,fun i hi=>?_,h3⟩
 obtain ⟨g1,g2,g0,ra,rn,rc,x,g3,g4,g5⟩:=h2 i hi
 exact ⟨g1,g2,g0.keep (key i hi) (Nat.le_refl _) (Nat.le_refl _),ra,rn,rc,x,g3,g4,ok.keep g5 (key i hi)⟩
end
def SepA {α:Type} (Q:RowP α) (lo hi:Nat) (w:World) (a:Option Addr) (n c:Nat) (xss:List α):Prop :=
 xss.length=n∧n≤c∧c≤maxLen∧(0<n→∃ b off,a=some ⟨b,off,none⟩∧lo≤b∧b<hi∧∃ vs,SepV Q lo hi w vs xss∧∀ i u,vs[i]? = some u→w.cell? ⟨b,off+i,none⟩=some u∧w.frozen? ⟨b,off+i,none⟩=false)∧(a=none→c=0)
section
variable {α:Type} {Q:RowP α} {lo hi lo' hi':Nat} {w w':World} {a:Option Addr} {n c:Nat} {xss:List α}
theorem SepA.len (h:SepA Q lo hi w a n c xss):xss.length=n:=h.1
theorem SepA.keep (ok:RowPOK Q) (h:SepA Q lo hi w a n c xss) (hk:Keeps lo hi w w'):SepA Q lo hi w' a n c xss:=by
 obtain ⟨h1,h2,h3,h4,h5⟩:=h
 refine ⟨h1,h2,h3,fun hn=>?_,h5⟩
 obtain ⟨b,off,ha,hl,hb,vs,hv,hc⟩:=h4 hn
 refine ⟨b,off,ha,hl,hb,vs,hv.keep ok hk,fun i u hu=>?_⟩
 rw [World.cell?_of_block (w:=w) (hk b hl hb),World.frozen?_of_block (w:=w) (hk b hl hb)];exact hc i u hu
theorem SepA.wide (h:SepA Q lo hi w a n c xss) (h1:lo'≤lo) (h2:hi≤hi'):SepA Q lo' hi' w a n c xss:=by
 obtain ⟨g1,g2,g3,g4,g5⟩:=h
 refine ⟨g1,g2,g3,fun hn=>?_,g5⟩
 obtain ⟨b,off,ha,hl,hb,vs,hv,hc⟩:=g4 hn
 exact ⟨b,off,ha,by omega,by omega,vs,hv.wide h1 h2,hc⟩
theorem SepA.sl {R:Rep α} (hR:∀ {lo hi w ra rn rc x},Q lo hi w ra rn rc x→R true lo hi w [.slice ra rn rc] x) (ok:RepOK R) (h:SepA Q lo hi w a n c xss):SlA 1 R true lo hi w a n c xss:=by
 obtain ⟨h1,h2,h3,h4,h5⟩:=h
 refine ⟨h1,h2,h3,fun hn=>?_,h5⟩
 obtain ⟨b,off,ha,hl,hb,vs,hv,hc⟩:=h4 hn
 refine ⟨b,off,ha,hl,hb,fun i hi=>?_⟩
 obtain ⟨_,s,t,g1,_⟩:=hv
 obtain ⟨e1,e2,_,ra,rn,rc,x,e3,e4,e5⟩:=g1 i (by omega)
 refine ⟨[.slice ra rn rc],x,rfl,e3,ok.wide (hR e5) e1 e2,fun j hj=>?_⟩
 obtain rfl:j=0:=by omega
 have:=hc i _ e4
 exact ⟨by simpa using this.1,fun _=>by simpa using this.2⟩
theorem SepA.row (ok:RowPOK Q) {b off:Nat} (h:SepA Q lo hi w (some ⟨b,off,none⟩) n c xss) {i:Nat} (hi':i<n) {x:α} (hx:xss[i]? = some x) :
 ∃ s t ra rn rc,lo≤s∧t≤hi∧w.cell? ⟨b,off+i,none⟩=some (.slice ra rn rc)∧Q s t w ra rn rc x ∧
  ∀ w' y,Marked s t w w'→Q s t w' ra rn rc y→SepA Q lo hi w' (some ⟨b,off,none⟩) n c (xss.set i y):=by
 obtain ⟨h1,h2,h3,h4,h5⟩:=h
 obtain ⟨b',off',ha,hl,hb,vs,hv,hc⟩:=h4 (by omega)
 simp only [Option.some.injEq,Addr.mk.injEq,and_true] at ha
 obtain ⟨rfl,rfl⟩:=ha
 obtain ⟨k1,s,t,g1,g2⟩:=hv
 obtain ⟨e1,e2,e0,ra,rn,rc,x',e3,e4,e5⟩:=g1 i (by omega)
 rw [hx] at e3;cases e3
 refine ⟨s i,t i,ra,rn,rc,e1,e2,(hc i _ e4).1,e5,fun w' y hm hy=>?_⟩
 refine ⟨by simpa using h1,h2,h3,fun _=>⟨b,off,rfl,hl,hb,vs,⟨by simpa using k1,s,t,fun j hj=>?_,fun j k hj hk=>by simp at hj hk;exact g2 j k hj hk⟩,fun j u hu=>?_⟩,h5⟩
 ·simp at hj
  by_cases e:j=i
  ·subst e
   refine ⟨e1,e2,?_,ra,rn,rc,y,by rw [List.getElem?_set_self (by omega)],e4,hy⟩
   intro hlt
   obtain ⟨k3,z,k4⟩:=e0 hlt
   obtain ⟨v',q1,q2⟩:=hm.cell _ _ k4
   rcases q2 with rfl | ⟨_,z',_,rfl,_⟩
   ·exact ⟨k3,z,q1⟩
   ·exact ⟨k3,z',q1⟩
  ·obtain ⟨f1,f2,f0,ra',rn',rc',z,f3,f4,f5⟩:=g1 j hj
   have hkk:=hm.keeps (lo':=s j) (hi':=t j) (by have:=g2 j i hj (by omega) e;omega)
   exact ⟨f1,f2,f0.keep hkk (Nat.le_refl _) (Nat.le_refl _),ra',rn',rc',z,by rw [List.getElem?_set_ne (by omega)];exact f3,f4,ok.keep f5 hkk⟩
 ·obtain ⟨g3,g4⟩:=hc j u hu
  have hsl:∃ ra rn rc,u=.slice ra rn rc:=by
   have hj:j<xss.length:=by rw [← k1];exact (List.getElem?_eq_some_iff.1 hu).1
   obtain ⟨_,_,_,ra',rn',rc',_,_,f4,_⟩:=g1 j hj
   rw [hu] at f4;cases f4;exact ⟨_,_,_,rfl⟩
  obtain ⟨ra',rn',rc',rfl⟩:=hsl
  obtain ⟨v',q1,q2⟩:=hm.cell _ _ g3
  refine ⟨?_,by rw [hm.frz];exact g4⟩
  rcases q2 with rfl | ⟨_,_,h,_⟩
  ·exact q1
  ·cases h
end
theorem SepA.own {α:Type} {Q:RowP α} {e:TypeId} {base:Nat} {w:World} {a:Option Addr} {n c:Nat} {vs:List Value} {xss:List α} (h:OwnV e base w a n c vs) (hv:SepV Q base w.heap.size w vs xss):SepA Q base w.heap.size w a n c xss:=by
 have hlen:=h.len
 obtain ⟨h1,h2⟩:=h.1
 rcases h2 with ⟨h2,h3⟩ | ⟨g,cap,cur,hvv,hb,hg,hnc,hcm,hcs,htake⟩
 ·simp only [Value.slice.injEq] at h2
  obtain ⟨rfl,rfl,rfl⟩:=h2
  exact ⟨by rw [← hv.1];exact hlen,Nat.le_refl _,by simp [maxLen],fun h=>by omega,fun _=>rfl⟩
 ·have ho':=h.1
  simp only [Value.slice.injEq] at hvv
  obtain ⟨rfl,_,rfl⟩:=hvv
  refine ⟨by rw [← hv.1];exact hlen,hnc,hcm,fun _=>⟨g,0,rfl,hb,(Array.getElem?_eq_some_iff.1 hg).1,vs,hv,fun i u hu=>⟨?_,?_⟩⟩,fun h=>(by cases h)⟩
  ·have h5:=ho'.cells (g:=g) rfl i u hu
   rwa [Addr.add_lit] at h5
  ·exact frozen_of_row w g (0+i) cur _ hg
end Go.Proofs.YteiaofkgbdlpoaaDoor
namespace Go.Proofs.YteiaofkgbdlpoaaDoor
set_option linter.unusedSimpArgs false
set_option linter.unusedVariables false
open Go.RowKit
def mkRats (k:Int) (n:Nat):List RatD:=(List.range n).map fun (i:Nat)=>⟨k+2*(i:Int),k+2*(i:Int)+1⟩
theorem mkRats_len (k:Int) (n:Nat):(mkRats k n).length=n:=by simp [mkRats]
theorem mkRats_qx (k:Int) {n i:Nat} (h:i<n):qx (mkRats k n) i=⟨k+2*(i:Int),k+2*(i:Int)+1⟩:=by simp [qx,mkRats,h]
theorem RatsA.marked {lo hi lo' hi':Nat} {w w':World} {a:Option Addr} {n c:Nat} {xs:List RatD} (h:RatsA true lo hi w a n c xs) (hm:Marked lo' hi' w w'):∃ ys,RatsA true lo hi w' a n c ys:=by
 by_cases hn:0<n
 ·obtain ⟨b,off,rfl⟩:=ratsSome h hn
  have h0:=ratsAt h hn
  have each:∀ i,i<n→∃ y:RatD,I64 y.num∧I64 y.den∧w'.cell? ⟨b,off+i*2,none⟩=some (.int .i64 y.num)∧w'.cell? ⟨b,off+i*2+1,none⟩=some (.int .i64 y.den):=by
   intro i hi
   obtain ⟨_,_,g1,g2,g3,g4,_⟩:=ratsAt h hi
   obtain ⟨v1,e1,q1⟩:=hm.cell _ _ g3
   obtain ⟨v2,e2,q2⟩:=hm.cell _ _ g4
   have f1:∃ x,v1=.int .i64 x∧I64 x:=by
    rcases q1 with rfl | ⟨_,y,_,rfl,hy⟩
    ·exact ⟨_,rfl,g1⟩
    ·exact ⟨_,rfl,hy⟩
   have f2:∃ x,v2=.int .i64 x∧I64 x:=by
    rcases q2 with rfl | ⟨_,y,_,rfl,hy⟩
    ·exact ⟨_,rfl,g2⟩
    ·exact ⟨_,rfl,hy⟩
   obtain ⟨x1,rfl,y1⟩:=f1
   obtain ⟨x2,rfl,y2⟩:=f2
   exact ⟨⟨x1,x2⟩,y1,y2,e1,e2⟩
  haveI:Inhabited RatD:=⟨⟨0,0⟩⟩
  obtain ⟨y,hy⟩:=Deep.choose_lt each
  refine ⟨(List.range n).map y,ratsMk (by simp) h.2.1 h.2.2.1 h0.1 h0.2.1 fun i hi=>?_⟩
  have hq:qx ((List.range n).map y) i=y i:=by simp [qx,hi]
  obtain ⟨_,_,_,_,g3,g4,g5⟩:=ratsAt h hi
  obtain ⟨e1,e2,e3,e4⟩:=hy i hi
  rw [hq]
  exact ⟨e1,e2,e3,e4,fun hf=>by rw [hm.frz,hm.frz];exact g5 hf⟩
 ·exact ⟨xs,h.1,h.2.1,h.2.2.1,fun h=>absurd h hn,h.2.2.2.2⟩
def GivesMarkR (lo hi:Nat) (w:World) (r:Int) (a:Option Addr) (n c:Nat) (ys:List RatD) (e:Ending) (w':World):Prop:=e=.returned (.int .i64 r)∧Marked lo hi w w'∧RatsA true lo hi w' a n c ys
set_option maxHeartbeats 1600000 in
theorem markRats {lo hi:Nat} (a:Option Addr) (n c:Nat) (xs:List RatD) (k:Int) (w:World) (hI:RatsA true lo hi w a n c xs) (h0:0≤k) (h1:k≤4194304) (hn:n≤1048576) :
 Calls Tryd.prog 19 #[.slice a n c,.int .i64 k] w (GivesMarkR lo hi w (k+2*n) a n c (mkRats k n)):=by
 have hs:=hI.small
 by_cases hn0:0<n
 ·obtain ⟨b,off,rfl⟩:=ratsSome hI hn0
  have hlo:=(ratsAt hI hn0).1
  have hhi:=(ratsAt hI hn0).2.1
  have HI:=hid hI;clear hI
  go_enter Tryd.func19,Tryd.ntmps19
  go_wp2
  go_loopw [1,5] (fun q i wr=>∃ (j:Nat) (t:Int),i=.int .i64 j∧q=.int .i64 t∧t=k+2*j∧j≤n∧Hid (Marked lo hi w wr∧∀ i,i<j→wr.cell? ⟨b,off+i*2,none⟩=some (.int .i64 (k+2*i))∧wr.cell? ⟨b,off+i*2+1,none⟩=some (.int .i64 (k+2*i+1)))) (fun _ i _=>n - (intOf i).toNat)
  case atStart=>exact ⟨0,_,rfl,rfl,by omega,by omega,hid ⟨Marked.refl _ _ _,fun i hi=>by omega⟩⟩
  case round =>
   obtain ⟨j,t,rfl,rfl,ht,hj,HM⟩:=hrel
   have ht1:0≤t:=by omega
   have ht2:t≤7340032:=by omega
   have HT:=hid ht;clear ht
   by_cases hlt:j<n
   ·obtain ⟨_,_,g1,g2,g3,g4,g5⟩:=ratsAt HI.out hlt
    obtain ⟨v0,e0,q0⟩:=HM.out.1.cell _ _ g3
    obtain ⟨v1,e1,q1⟩:=HM.out.1.cell _ _ g4
    obtain ⟨y0,rfl⟩:∃ y,v0=.int .i64 y:=by
     rcases q0 with rfl | ⟨_,y,_,rfl,_⟩ <;> exact ⟨_,rfl⟩
    obtain ⟨y1,rfl⟩:∃ y,v1=.int .i64 y:=by
     rcases q1 with rfl | ⟨_,y,_,rfl,_⟩ <;> exact ⟨_,rfl⟩
    have hf0:wr.frozen? ⟨b,off+j*2,none⟩=false:=by rw [HM.out.1.frz];exact (g5 rfl).1
    have hf1:wr.frozen? ⟨b,off+j*2+1,none⟩=false:=by rw [HM.out.1.frz];exact (g5 rfl).2
    have hne:(⟨b,off+j*2,none⟩:Addr) ≠ ⟨b,off+j*2+1,none⟩:=by intro h;simp only [Addr.mk.injEq] at h;omega
    have hm1:=marked_set (lo:=lo) (hi:=hi) (x':=t) e0 hlo hhi (by unfold I64;omega)
    have e1':(wr.setCell ⟨b,off+j*2,none⟩ (.int .i64 t)).cell? ⟨b,off+j*2+1,none⟩=some (.int .i64 y1):=by rw [cset_other hne];exact e1
    have hm2:=marked_set (lo:=lo) (hi:=hi) (x':=t+1) e1' hlo hhi (by unfold I64;omega)
    have HMS:=hid (HM.out.1.trans (hm1.trans hm2))
    have HE:=hid (And.intro e0 (And.intro e1' hne))
    clear hm1 hm2 q0 q1 g1 g2 g3 g4 g5 hne
    go_wp2
    go_roundw
    case rel=>exact ⟨j+1,_,by go_num,rfl,by have:=HT.out;omega,by omega,hid ⟨HMS.out,fun i hi=>by
     by_cases e:i=j
     ·subst e
      refine ⟨?_,?_⟩
      ·rw [cset_other HE.out.2.2.symm,cset_same HE.out.1,HT.out]
      ·rw [cset_same HE.out.2.1,HT.out]
     ·obtain ⟨f1,f2⟩:=HM.out.2 i (by omega)
      refine ⟨?_,?_⟩
      ·rw [cset_other (by intro h;simp only [Addr.mk.injEq] at h;omega),cset_other (by intro h;simp only [Addr.mk.injEq] at h;omega)];exact f1
      ·rw [cset_other (by intro h;simp only [Addr.mk.injEq] at h;omega),cset_other (by intro h;simp only [Addr.mk.injEq] at h;omega)];exact f2⟩⟩
    case measure=>simp [intOf];omega
   ·go_wp2
    go_ret
    obtain rfl:j=n:=by omega
    refine ⟨ret_int (by have:=HT.out;omega),HM.out.1,ratsMk (mkRats_len _ _) HI.out.2.1 HI.out.2.2.1 hlo hhi fun i hi=>?_⟩
    obtain ⟨_,_,_,_,_,_,g5⟩:=ratsAt HI.out hi
    rw [mkRats_qx k hi]
    obtain ⟨f1,f2⟩:=HM.out.2 i hi
    exact ⟨by unfold I64;dsimp only;omega,by unfold I64;dsimp only;omega,f1,f2,fun hf=>by rw [HM.out.1.frz,HM.out.1.frz];exact g5 hf⟩
 ·have hn0':n≤0:=by omega
  have HI:=hid hI;clear hI
  go_enter Tryd.func19,Tryd.ntmps19
  go_wp2
  go_loopw [1,5] (fun q i wr=>i=.int .i64 0∧q=.int .i64 k∧wr=w) (fun _ i _=>n - (intOf i).toNat)
  case atStart=>exact ⟨rfl,rfl,rfl⟩
  case round =>
   obtain ⟨rfl,rfl,rfl⟩:=hrel
   go_wp2
   go_ret
   have hx:=HI.out
   obtain rfl:n=0:=by omega
   exact ⟨ret_int (by omega),Marked.refl _ _ _,rfl,hx.2.1,hx.2.2.1,(fun h=>by omega),hx.2.2.2.2⟩
set_option maxHeartbeats 800000 in
theorem heldRats {fz:Bool} {lo hi:Nat} (a:Option Addr) (n c:Nat) (k:Int) (w:World) (hI:RatsA fz lo hi w a n c (mkRats k n)) (h0:0≤k) (h1:k≤4194304) (hn:n≤1048576) :
 Calls Tryd.prog 20 #[.slice a n c,.int .i64 k] w (Gives w (.int .i64 (k+2*n))):=by
 have hs:=hI.small
 have HI:=hid hI
 go_enter Tryd.func20,Tryd.ntmps20
 go_wp2
 go_loopw [1,5] (fun q i wr=>∃ (j:Nat) (t:Int),i=.int .i64 j∧q=.int .i64 t∧t=k+2*j∧j≤n∧∃ m,wr=w.drewN m) (fun _ i _=>n - (intOf i).toNat)
 case atStart=>exact ⟨0,_,rfl,rfl,by omega,by omega,0,rfl⟩
 case round =>
  obtain ⟨j,t,rfl,rfl,ht,hj,m,rfl⟩:=hrel
  have ht1:0≤t:=by omega
  have ht2:t≤7340032:=by omega
  by_cases hlt:j<n
  ·obtain ⟨b,off,rfl⟩:=ratsSome HI.out (by omega)
   obtain ⟨_,_,_,_,d0,d1,_⟩:=ratsAt HI.out hlt
   rw [mkRats_qx k hlt] at d0 d1
   dsimp only at d0 d1
   rw [← ht] at d0 d1
   have HT:=hid ht;clear ht hI
   have hb:(t != t)=false:=by simp
   have hb1:(t+1 != t+1)=false:=by simp
   go_wp2
   go_roundw
   case rel=>exact ⟨j+1,_,by go_num,rfl,by have:=HT.out;omega,by omega,by first | exact ⟨_,rfl⟩ | exact ⟨_,dd⟩⟩
   case measure=>simp [intOf];omega
  ·have HT:=hid ht;clear ht
   go_wp2
   go_ret
   exact ⟨ret_int (by have:=HT.out;omega),by first | exact ⟨_,rfl⟩ | exact ⟨_,dd⟩⟩
def mkMat:Int→List (List RatD)→List (List RatD)
 | _,[]=>[]
 | k,x :: xs=>mkRats k x.length :: mkMat (k+2*x.length) xs
theorem mkMat_len (k:Int) (xss:List (List RatD)):(mkMat k xss).length=xss.length:=by
 induction xss generalizing k with
 | nil=>rfl
 | cons x xs ih=>simp [mkMat,ih]
theorem mlens_cons (x:List RatD) (xs:List (List RatD)) (k:Nat):mlens (x :: xs) (k+1)=x.length+mlens xs k:=by
 induction k with
 | zero=>simp [mlens,mx]
 | succ k ih =>
  have h1:mlens (x :: xs) (k+1+1)=mlens (x :: xs) (k+1)+(mx (x :: xs) (k+1)).length:=rfl
  have h2:mlens xs (k+1)=mlens xs k+(mx xs k).length:=rfl
  have h3:mx (x :: xs) (k+1)=mx xs k:=by simp [mx]
  rw [h1,ih,h2,h3];omega
theorem mkMat_mx (k:Int) (xss:List (List RatD)) {j:Nat} (hj:j<xss.length):mx (mkMat k xss) j=mkRats (k+2*mlens xss j) (mx xss j).length:=by
 induction xss generalizing k j with
 | nil=>simp at hj
 | cons x xs ih =>
  cases j with
  | zero=>simp [mkMat,mx,mlens]
  | succ j =>
   have h1:mx (mkMat k (x :: xs)) (j+1)=mx (mkMat (k+2*x.length) xs) j:=by simp [mkMat,mx]
   have h2:mx (x :: xs) (j+1)=mx xs j:=by simp [mx]
   rw [h1,h2,ih _ (by simpa using hj),mlens_cons]
   congr 1
   simp;omega
def mixMat (k:Int) (xss:List (List RatD)) (j:Nat):List (List RatD):=(mkMat k xss).take j ++ xss.drop j
theorem mixMat_zero (k:Int) (xss:List (List RatD)):mixMat k xss 0=xss:=by simp [mixMat]
theorem mixMat_end (k:Int) (xss:List (List RatD)):mixMat k xss xss.length=mkMat k xss:=by
 unfold mixMat;rw [List.drop_length,List.append_nil,← mkMat_len k xss,List.take_length]
theorem mixMat_at (k:Int) (xss:List (List RatD)) {j:Nat} (hj:j<xss.length):(mixMat k xss j)[j]? = some (mx xss j):=by
 unfold mixMat
 rw [List.getElem?_append_right (by rw [List.length_take];omega),List.length_take,mkMat_len]
 rw [show j - min j xss.length=0 by omega]
 rw [List.getElem?_drop,mx_lt hj];simp [hj]
theorem mixMat_set (k:Int) (xss:List (List RatD)) {j:Nat} (hj:j<xss.length):(mixMat k xss j).set j (mkRats (k+2*mlens xss j) (mx xss j).length)=mixMat k xss (j+1):=by
 have hm:=mkMat_mx k xss hj
 have hl:(mkMat k xss).length=xss.length:=mkMat_len k xss
 rw [← hm]
 apply List.ext_getElem?
 intro i
 unfold mixMat
 by_cases e:i=j
 ·subst e
  rw [List.getElem?_set_self (by rw [List.length_append,List.length_take,List.length_drop];omega)]
  rw [List.getElem?_append_left (by rw [List.length_take];omega),List.getElem?_take_of_lt (by omega),mx_lt (by omega)];simp [hl,hj]
 ·rw [List.getElem?_set_ne (by omega)]
  by_cases h:i<j
  ·rw [List.getElem?_append_left (by rw [List.length_take];omega),List.getElem?_append_left (by rw [List.length_take];omega),List.getElem?_take_of_lt h,List.getElem?_take_of_lt (by omega)]
  ·rw [List.getElem?_append_right (by rw [List.length_take];omega),List.getElem?_append_right (by rw [List.length_take];omega),List.length_take,List.length_take,List.getElem?_drop,List.getElem?_drop]
   congr 1;omega
set_option maxHeartbeats 800000 in
theorem heldMat {fz:Bool} {lo hi:Nat} (a:Option Addr) (n c:Nat) (xss:List (List RatD)) (k:Int) (w:World) (hI:MatA fz lo hi w a n c (mkMat k xss)) (h0:0≤k) (h1:k≤2097152) (hsz:matSz xss≤1048576) :
 Calls Tryd.prog 38 #[.slice a n c,.int .i64 k] w (Gives w (.int .i64 (k+2*mlens xss n))):=by
 have hl:=hI.len
 rw [mkMat_len] at hl
 have hs:=hI.small
 have hsum:mlens xss xss.length≤1048576:=by unfold matSz at hsz;omega
 have HL:=hid hl;clear hl
 have HS:=hid hsum;clear hsum hsz
 go_enter Tryd.func38,Tryd.ntmps38
 go_wp2
 go_loopw [1,5] (fun q i wr=>∃ (j:Nat) (t:Int),i=.int .i64 j∧q=.int .i64 t∧t=k+2*mlens xss j∧j≤n∧∃ m,wr=w.drewN m) (fun _ i _=>n - (intOf i).toNat)
 case atStart=>exact ⟨0,_,rfl,rfl,by simp [mlens],by omega,0,rfl⟩
 case round =>
  obtain ⟨j,t,rfl,rfl,ht,hj,m,rfl⟩:=hrel
  have hlj:mlens xss j≤1048576:=Nat.le_trans (mlens_mono (by rw [HL.out];exact hj)) HS.out
  have ht1:0≤t:=by omega
  have ht2:t≤4194304:=by omega
  by_cases hlt:j<n
  ·obtain ⟨b,off,rfl⟩:=matSome hI (by omega)
   obtain ⟨_,_,ra,rn,rc,hc,hr,_⟩:=matAt hI hlt
   have hm:=mkMat_mx k xss (j:=j) (by rw [HL.out];exact hlt)
   rw [hm,← ht] at hr
   have hrl:(mx xss j).length=rn:=by have:=SlA.len hr;rwa [mkRats_len] at this
   rw [hrl] at hr
   have hrn2:rn≤1048576:=by have h2:=mlens_mono (xss:=xss) (i:=j+1) (k:=xss.length) (by rw [HL.out];omega);have h3:=HS.out;simp only [mlens] at h2;omega
   have hnn:¬ t+2*(rn:Int)<0:=by omega
   have HT:=hid ht;clear ht hlj hm
   have HR:=hid (And.intro hrl hr);clear hrl hr
   go_wp2_with fail
   refine (heldRats ra rn rc t _ (SlA.drewN ratRep HR.out.2 m) ht1 ht2 hrn2).mono ?_
   rintro e w1 ⟨rfl,m1,rfl⟩
   go_wp2
   go_roundw
   case rel=>exact ⟨j+1,_,by go_num,rfl,by have h1:=HT.out;have h2:=HR.out.1;simp only [mlens];omega,by omega,by first | exact ⟨_,rfl⟩ | exact ⟨_,dd⟩⟩
   case measure=>simp [intOf];omega
  ·have HT:=hid ht;clear ht hlj
   go_wp2
   go_ret
   obtain rfl:j=n:=by omega
   exact ⟨ret_int HT.out,by first | exact ⟨_,rfl⟩ | exact ⟨_,dd⟩⟩
end Go.Proofs.YteiaofkgbdlpoaaDoor
namespace Go.Proofs.YteiaofkgbdlpoaaDoor
set_option linter.unusedSimpArgs false
set_option linter.unusedVariables false
open Go.RowKit
end Go.Proofs.YteiaofkgbdlpoaaDoor
namespace Go.Proofs.YteiaofkgbdlpoaaDoor
set_option linter.unusedSimpArgs false
set_option linter.unusedVariables false
open Go.RowKit
section
variable {C:Nat→Nat→Prop} {fz:Bool} {lo hi:Nat} {w:World} {a:Option Addr} {n c:Nat}
theorem cxk_rats:∀ {xs:List RatD} {us:List Value},CXk C w 2 (xs.map ratDV) us→us=flatR xs∧∀ i,i<xs.length→I64 (qx xs i).num∧I64 (qx xs i).den
 | [],us,h=>⟨h,fun i hi=>absurd hi (Nat.not_lt_zero _)⟩
 | x :: xs,us,h=>by
  obtain ⟨u,v,rfl,g1,g2,g3⟩:=h
  obtain ⟨e,i1,i2⟩:=cxs_two.1 g1
  obtain ⟨e2,h2⟩:=cxk_rats g3
  subst e;subst e2
  refine ⟨rfl,fun i hi=>?_⟩
  cases i with
  | zero=>exact ⟨i1,i2⟩
  | succ i=>exact h2 i (by simpa using hi)
theorem ratsMk0 {xs:List RatD} (hl:xs.length=n) (hnc:n≤c) (hcm:c≤maxLen) (ha:a=none→c=0) (hI:∀ i,i<xs.length→I64 (qx xs i).num∧I64 (qx xs i).den)
 (h:0<n→∃ b off,a=some ⟨b,off,none⟩∧lo≤b∧b<hi∧∀ i u,(flatR xs)[i]? = some u→w.cell? ⟨b,off+i,none⟩=some u∧(fz=true→w.frozen? ⟨b,off+i,none⟩=false)):RatsA fz lo hi w a n c xs:=by
 by_cases hn:0<n
 ·obtain ⟨b,off,rfl,h1,h2,h3⟩:=h hn
  refine ratsMk hl hnc hcm h1 h2 fun i hi=>?_
  have f:=flatR_at (xs:=xs) (i:=i) (by omega)
  have g1:=h3 _ _ f.1
  have g2:=h3 _ _ f.2
  exact ⟨(hI i (by omega)).1,(hI i (by omega)).2,g1.1,g2.1,fun e=>⟨g1.2 e,g2.2 e⟩⟩
 ·exact ⟨hl,hnc,hcm,fun h=>absurd h hn,ha⟩
theorem cx_ratsC {xs:List RatD} {us:List Value} (hC:∀ b i,C b i→lo≤b∧b<hi) (h:CX C w (ratsD xs) us):∃ a n c,us=[.slice a n c]∧RatsA false lo hi w a n c xs:=by
 obtain ⟨a,n,c,vs,rfl,h2,h3,h4,h5,h6,h7,h8,h9⟩:=h
 obtain ⟨rfl,hI⟩:=cxk_rats h3
 rw [List.length_map] at h2
 refine ⟨a,n,c,rfl,ratsMk0 h2 h5 h6 h7 hI fun hn=>?_⟩
 obtain ⟨b,off,ha,hc⟩:=h9 hn
 have f:=flatR_at (xs:=xs) (i:=0) (by omega)
 have hb:=hC b _ (hc _ _ f.1).1
 exact ⟨b,off,ha,hb.1,hb.2,fun i u hu=>⟨(hc i u hu).2,fun h=>(by cases h)⟩⟩
theorem cx_matC {xss:List (List RatD)} {us:List Value} (hC:∀ b i,C b i→lo≤b∧b<hi) (h:CX C w (matD xss) us):∃ a n c,us=[.slice a n c]∧MatA false lo hi w a n c xss:=by
 obtain ⟨a,n,c,vs,rfl,h2,h3,h4,h5,h6,h7,h8,h9⟩:=h
 simp only [List.length_map] at h2
 obtain ⟨g1,g2⟩:=CXk.singles.1 h3
 refine ⟨a,n,c,rfl,h2,h5,h6,fun hn=>?_,h7⟩
 obtain ⟨b,off,ha,hc⟩:=h9 hn
 have hat:∀ i (hj:i<xss.length),∃ u,vs[i]? = some u∧∃ ra rn rc,u=.slice ra rn rc∧RatsA false lo hi w ra rn rc xss[i]:=fun i hj=>by
  obtain ⟨u,hu,hx⟩:=g2 i (ratsD xss[i]) (by rw [List.getElem?_map,List.getElem?_eq_getElem hj];rfl)
  obtain ⟨ra,rn,rc,e,hI⟩:=cx_ratsC hC hx
  simp only [List.cons.injEq,and_true] at e
  exact ⟨u,hu,ra,rn,rc,e,hI⟩
 obtain ⟨u0,hu0,_⟩:=hat 0 (by omega)
 have hb:=hC b _ (hc 0 u0 hu0).1
 refine ⟨b,off,ha,hb.1,hb.2,fun i hi=>?_⟩
 obtain ⟨u,hu,ra,rn,rc,rfl,hI⟩:=hat i (by omega)
 refine ⟨[.slice ra rn rc],xss[i],rfl,List.getElem?_eq_getElem (by omega),⟨ra,rn,rc,rfl,hI⟩,fun j hj=>?_⟩
 obtain rfl:j=0:=by omega
 exact ⟨by simpa using (hc i _ hu).2,fun h=>(by cases h)⟩
end
section
variable {fz:Bool} {lo hi B lo':Nat} {w w':World} {a:Option Addr} {n c:Nat} {xs:List (List RatD)}
end
section
variable {fz:Bool} {lo hi:Nat} {w:World} {a:Option Addr} {n c:Nat} {xs:List (List RatD)} {ba ca:Option Addr} {bn bc cn cc:Nat} {bs cs:List RatD}
end
end Go.Proofs.YteiaofkgbdlpoaaDoor
namespace Go.Proofs.YteiaofkgbdlpoaaDoor
set_option linter.unusedSimpArgs false
set_option linter.unusedVariables false
open Go.RowKit
section
variable {fz:Bool} {lo hi:Nat} {w:World} {a:Option Addr} {n c:Nat} {xs:List (List RatD)} {ba ca:Option Addr} {bn bc cn cc:Nat} {bs cs:List RatD}
end
end Go.Proofs.YteiaofkgbdlpoaaDoor
namespace Go.Proofs.YteiaofkgbdlpoaaDoor
set_option linter.unusedSimpArgs false
set_option linter.unusedVariables false
attribute [local go_sem ↓] reduceIte
attribute [local go_sem] Nat.reduceEqDiff Nat.reduceLT Nat.reduceAdd Nat.reduceLeDiff Nat.reduceMul Nat.reduceBEq Nat.reduceSub reduceCtorEq Int.reduceLE Int.reduceNeg Int.reduceLT
open Go.RowKit
theorem take_mapI {α β:Type} (f:α→β) (l:List α) (d:α) {i:Nat} (h:i<l.length):(l.take (i+1)).map f=(l.take i).map f ++ [f (l.getD i d)]:=by
 rw [List.take_add_one,List.getElem?_eq_getElem h,List.map_append]
 simp [List.getD,h]
def trQ (A:List (List RatD)) (n:Nat):List (List RatD):=(List.range n).map fun k=>A.map fun r=>qx r k
section
variable (A:List (List RatD)) (m n:Nat) (hOK:matOK A m n=true) (hm:1≤m∧m≤1000) (hn:n≤1000)
include hOK hm hn
end
structure LpS where
 A:List (List RatD)
 B:List RatD
 C:List RatD
 ok:Bool
def ansP (p:LpS):AV:=.tup [.d (lpD p.A p.B p.C),.d (.bool p.ok)]
theorem noLp:ALe (.tup [.d (.agg [.sl 1 [],.sl 1 [],.sl 1 []]),.d (.bool false)]) (.tup [.d (.agg [.sl 1 [],.sl 2 [],.sl 2 []]),.d (.bool false)]):=.tup (.cons (ALe.dd (dle_agg (.cons (dle_refl _) (.cons (dle_nil 1 2) (.cons (dle_nil 1 2) .nil))))) (.cons (.refl _) .nil))
def dlF (A:List (List RatD)) (B C:List RatD):LpS:=if lpV A B C=true then ⟨trQ A C.length,C,B,true⟩ else ⟨[],[],[],false⟩
section
variable (A:List (List RatD)) (B C:List RatD) (hA:A.length≤1048576) (hr:∀ i,i<A.length→(mx A i).length≤1048576) (hB:B.length≤1048576) (hC:C.length≤1048576)
include hA hr hB hC
end
end Go.Proofs.YteiaofkgbdlpoaaDoor
namespace Go.Proofs.YteiaofkgbdlpoaaDoor
set_option linter.unusedSimpArgs false
set_option linter.unusedVariables false
attribute [local go_sem ↓] reduceIte
attribute [local go_sem] Nat.reduceEqDiff Nat.reduceLT Nat.reduceAdd Nat.reduceLeDiff Nat.reduceMul Nat.reduceBEq Nat.reduceSub reduceCtorEq Int.reduceLE Int.reduceNeg Int.reduceLT
open Go.RowKit
end Go.Proofs.YteiaofkgbdlpoaaDoor
namespace Go.Proofs.YteiaofkgbdlpoaaDoor
set_option linter.unusedSimpArgs false
set_option linter.unusedVariables false
open Go.RowKit
noncomputable def occ (xs:List Int) (v:Int):Bool:=decide (0≤findF xs v)
theorem occ_at {xs:List Int} {v:Int} {i:Nat} (hi:i<xs.length) (h:ix xs i=v) (hn:∀ j,j<i→ix xs j ≠ v):occ xs v=true:=by
 unfold occ;rw [findF_eq hi h hn];simp
theorem occ_none {xs:List Int} {v:Int} (h:∀ i,i<xs.length→ix xs i ≠ v):occ xs v=false:=by
 unfold occ;rw [findF_none h];simp
set_option maxHeartbeats 800000 in
theorem implHasVar {fz:Bool} {lo hi:Nat} (s:ByteArray) (a:Option Addr) (n c:Nat) (xs:List Int) (v:Int) (w:World) (hI:IntsA fz lo hi w a n c xs) (hh:hi≤w.heap.size) :
 Calls Tryd.prog 54 #[atomV s a n c,.int .i64 v] w (Leaves w (.bool (occ xs v))):=by
 go_enter Tryd.func54,Tryd.ntmps54
 go_wp2_with fail
 refine (implHasInt a n c xs v _ (beInts (B:=w.heap.size) hI belA hh)).mono ?_
 rintro e w1 ⟨rfl,m1,rfl⟩
 go_wp2_with fail
 go_ret
 exact ⟨rfl,belA⟩
set_option maxHeartbeats 800000 in
theorem specHasVar {fz:Bool} {lo hi:Nat} (s:ByteArray) (a:Option Addr) (n c:Nat) (xs:List Int) (v:Int) (w:World) (hI:IntsA fz lo hi w a n c xs) (hh:hi≤w.heap.size) :
 Calls Tryd.prog 26 #[atomV s a n c,.int .i64 v] w (Leaves w (.bool (occ xs v))):=by
 have hl:=hI.len
 have hs:=hI.small
 have HL:=hid hl;clear hl
 obtain ⟨W,hW⟩:∃ W,W=w.alloc (.cells #[.string s,.slice a n c] 54):=⟨_,rfl⟩
 have hBW:Below w.heap.size w W:=by rw [hW];exact belA
 have c1:W.cell? ⟨w.heap.size,1,none⟩=some (.slice a n c):=by rw [hW];simp
 have hIW:=beInts hI hBW hh
 have HW:=hid (And.intro hW hBW);clear hW hBW hI
 go_enter Tryd.func26,Tryd.ntmps26
 go_upto_region 1 with fail
 rw [← HW.out.1]
 go_wp2_with fail
 go_loop [5] (fun i=>∃ k:Nat,i=.int .i64 k∧k≤n∧Hid (∀ j,j<k→ix xs j ≠ v)) (fun i=>n - (intOf i).toNat)
 case atStart=>exact ⟨0,rfl,by omega,hid (fun j hj=>by omega)⟩
 case round =>
  obtain ⟨k,rfl,hk,HT⟩:=hrel
  by_cases hlt:k<n
  ·obtain ⟨b,off,rfl,_,_,hc,_⟩:=hIW.open (by omega)
   have c2:=hc k hlt
   clear hc
   generalize hx:ix xs k=x at *
   have HX:=hid hx;clear hx
   by_cases he:x=v
   ·have hb:(x == v)=true:=by simp [he]
    have HF:=hid (occ_at (xs:=xs) (v:=v) (i:=k) (by rw [HL.out];exact hlt) (by rw [HX.out];exact he) HT.out)
    have HE:=hid he;clear he
    go_wp2_with fail
    go_ret
    exact ⟨by rw [HF.out];rfl,HW.out.2⟩
   ·have hb:(x == v)=false:=by simp [he]
    have HT2:Hid (∀ j,j<k+1→ix xs j ≠ v):=hid (fun j hj=>by
     by_cases e:j=k
     ·subst e;rw [HX.out];exact he
     ·exact HT.out j (by omega))
    have HE:=hid he;clear he
    go_wp2_with fail
    go_round
    case rel=>exact ⟨k+1,by go_num,by omega,HT2⟩
    case measure=>simp [intOf];omega
  ·have HF:=hid (occ_none (xs:=xs) (v:=v) (by rw [HL.out];intro j hj;exact HT.out j (by omega)))
   go_wp2_with fail
   go_ret
   exact ⟨by rw [HF.out];rfl,HW.out.2⟩
noncomputable def avTo (xs:List Int):Nat→List Int
 | 0=>[]
 | k+1=>if occ xs k=true then avTo xs k ++ [(k:Int)] else avTo xs k
end Go.Proofs.YteiaofkgbdlpoaaDoor
namespace Go.Proofs.YteiaofkgbdlpoaaDoor
set_option linter.unusedSimpArgs false
set_option linter.unusedVariables false
open Go.RowKit
def sx (s:ByteArray) (i:Nat):Int:=if h:i<s.size then (s[i].toNat:Int) else 0
theorem sx_lt {s:ByteArray} {i:Nat} (h:i<s.size):sx s i=(s[i].toNat:Int):=by simp [sx,h]
def LetTo (s:ByteArray) (k:Nat):Prop:=∀ i,i<k→97≤sx s i∧sx s i≤122
open Classical in
noncomputable def nameOK (s:ByteArray):Bool:=decide ((1≤s.size∧s.size≤4)∧LetTo s s.size)
theorem nameOK_size {s:ByteArray} (h:¬ (1≤s.size∧s.size≤4)):nameOK s=false:=by simp only [nameOK,decide_eq_false_iff_not];exact fun g=>h g.1
theorem nameOK_let {s:ByteArray} {i:Nat} (hi:i<s.size) (h:¬ (97≤sx s i∧sx s i≤122)):nameOK s=false:=by simp only [nameOK,decide_eq_false_iff_not];exact fun g=>h (g.2 i hi)
theorem nameOK_yes {s:ByteArray} (h:1≤s.size∧s.size≤4) (h2:LetTo s s.size):nameOK s=true:=by simp only [nameOK,decide_eq_true_eq];exact ⟨h,h2⟩
set_option maxHeartbeats 800000 in
theorem implLetters (s:ByteArray) (w:World) (hs:s.size≤9223372036854775807):Calls Tryd.prog 66 #[.string s,.int .i64 4] w (Leaves w (.bool (nameOK s))):=by
 by_cases h1:1≤s.size∧s.size≤4
 ·obtain ⟨h1a,h1b⟩:=h1
  go_enter Tryd.func66,Tryd.ntmps66
  go_wp2_with fail
  go_loop [5] (fun i=>∃ k:Nat,i=.int .i64 k∧k≤s.size∧Hid (LetTo s k)) (fun i=>s.size - (intOf i).toNat)
  case atStart=>exact ⟨0,rfl,Nat.zero_le _,hid (fun i hi=>by omega)⟩
  case round =>
   obtain ⟨k,rfl,hk,HT⟩:=hrel
   by_cases hlt:k<s.size
   ·have HX:=hid (sx_lt hlt)
    by_cases g1:(s[k].toNat:Int)<97
    ·have HF:=hid (nameOK_let hlt (fun g=>by rw [HX.out] at g;omega))
     go_wp2_with fail
     go_ret
     exact ⟨by rw [HF.out];rfl,belA⟩
    ·by_cases g2:122<(s[k].toNat:Int)
     ·have HF:=hid (nameOK_let hlt (fun g=>by rw [HX.out] at g;omega))
      go_wp2_with fail
      go_ret
      exact ⟨by rw [HF.out];rfl,belA⟩
     ·have HT2:Hid (LetTo s (k+1)):=hid (fun i hi=>by
       by_cases e:i=k
       ·subst e;rw [HX.out];omega
       ·exact HT.out i (by omega))
      go_wp2_with fail
      go_round
      case rel=>exact ⟨k+1,by go_num,by omega,HT2⟩
      case measure=>simp [intOf];omega
   ·have HF:=hid (nameOK_yes ⟨h1a,h1b⟩ (by intro i hi;exact HT.out i (by omega)))
    go_wp2_with fail
    go_ret
    exact ⟨by rw [HF.out];rfl,belA⟩
 ·have HF:=hid (nameOK_size h1)
  by_cases h2:s.size<1
  ·go_enter Tryd.func66,Tryd.ntmps66
   go_wp2_with fail
   go_ret
   exact ⟨by rw [HF.out];rfl,belA⟩
  ·have h3:4<s.size:=by omega
   clear h1
   go_enter Tryd.func66,Tryd.ntmps66
   go_wp2_with fail
   go_ret
   exact ⟨by rw [HF.out];rfl,belA⟩
theorem implName (s:ByteArray) (w:World) (hs:s.size≤9223372036854775807):Calls Tryd.prog 52 #[.string s] w (Leaves w (.bool (nameOK s))):=by
 go_enter Tryd.func52,Tryd.ntmps52
 go_wp2_with fail
 refine (implLetters s _ hs).mono ?_
 rintro e w1 ⟨rfl,hb1⟩
 go_wp2_with fail
 go_ret
 exact ⟨rfl,hb1⟩
set_option maxHeartbeats 800000 in
theorem specName (s:ByteArray) (w:World) (hs:s.size≤9223372036854775807):Calls Tryd.prog 47 #[.string s] w (Leaves w (.bool (nameOK s))):=by
 go_enter Tryd.func47,Tryd.ntmps47
 go_wp2_with fail
 go_loop [3] (fun i=>∃ k:Nat,i=.int .i64 k∧k≤s.size∧Hid (LetTo s k)) (fun i=>s.size - (intOf i).toNat)
 case atStart=>exact ⟨0,rfl,Nat.zero_le _,hid (fun i hi=>by omega)⟩
 case round =>
  obtain ⟨k,rfl,hk,HT⟩:=hrel
  by_cases hlt:k<s.size
  ·have HX:=hid (sx_lt hlt)
   by_cases g1:(s[k].toNat:Int)<97
   ·have HF:=hid (nameOK_let hlt (fun g=>by rw [HX.out] at g;omega))
    go_wp2_with fail
    go_ret
    exact ⟨by rw [HF.out];rfl,belA⟩
   ·by_cases g2:122<(s[k].toNat:Int)
    ·have HF:=hid (nameOK_let hlt (fun g=>by rw [HX.out] at g;omega))
     go_wp2_with fail
     go_ret
     exact ⟨by rw [HF.out];rfl,belA⟩
    ·have HT2:Hid (LetTo s (k+1)):=hid (fun i hi=>by
      by_cases e:i=k
      ·subst e;rw [HX.out];omega
      ·exact HT.out i (by omega))
     go_wp2_with fail
     go_round
     case rel=>exact ⟨k+1,by go_num,by omega,HT2⟩
     case measure=>simp [intOf];omega
  ·have hT:LetTo s s.size:=fun i hi=>HT.out i (by omega)
   have HTT:=hid hT;clear hT
   obtain ⟨d,hd⟩:∃ d,decide ((1:Int)≤s.size∧(s.size:Int)≤4)=d:=⟨_,rfl⟩
   have HD:=hid hd;clear hd
   have HF:Hid (nameOK s=d):=hid (by
    rw [← HD.out]
    by_cases h:1≤s.size∧s.size≤4
    ·rw [nameOK_yes h HTT.out];symm;simp;omega
    ·rw [nameOK_size h];symm;simp;omega)
   go_wp2_with fail
   refine (specIn s.size 1 4 _).mono ?_
   rintro e w1 ⟨rfl,m1,rfl⟩
   rw [HD.out]
   go_wp2_with fail
   go_ret
   exact ⟨by rw [HF.out];rfl,belA⟩
end Go.Proofs.YteiaofkgbdlpoaaDoor
namespace Go.Proofs.YteiaofkgbdlpoaaDoor
set_option linter.unusedSimpArgs false
set_option linter.unusedVariables false
open Go.RowKit
theorem pigeon:∀ (n k:Nat) (f:Nat→Int),(∀ i,i<k→0≤f i∧f i<n)→(∀ i j,i<j→j<k→f i ≠ f j)→k≤n
 | 0,k,f,h1,_=>by
  by_cases hk:0<k
  ·have:=h1 0 hk;omega
  ·omega
 | n+1,k,f,h1,h2=>by
  by_cases h:∃ i,i<k∧f i=n
  ·obtain ⟨i0,hi0,he⟩:=h
   have:=pigeon n (k - 1) (fun j=>if j<i0 then f j else f (j+1)) (fun j hj=>by
    show 0≤(if j<i0 then f j else f (j+1))∧(if j<i0 then f j else f (j+1))<n
    split
    ·next g =>
     have a:=h1 j (by omega);have b:=h2 j i0 g hi0;rw [he] at b
     exact ⟨a.1,by omega⟩
    ·next g =>
     have a:=h1 (j+1) (by omega);have b:=h2 i0 (j+1) (by omega) (by omega);rw [he] at b
     exact ⟨a.1,by omega⟩) (fun i j hij hj=>by
    show (if i<i0 then f i else f (i+1)) ≠ (if j<i0 then f j else f (j+1))
    split
    ·split
     ·exact h2 i j hij (by omega)
     ·exact h2 i (j+1) (by omega) (by omega)
    ·split
     ·omega
     ·exact h2 (i+1) (j+1) (by omega) (by omega))
   omega
  ·have:=pigeon n k f (fun i hi=>by
    have a:=h1 i hi
    have b:f i ≠ n:=fun e=>h ⟨i,hi,e⟩
    exact ⟨a.1,by omega⟩) h2
   omega
theorem firstIx_sr (p:Nat→Prop) (n:Nat):(firstIx p n<n→p (firstIx p n))∧∀ j,j<firstIx p n→¬ p j:=by
 induction n with
 | zero=>exact ⟨fun h=>by simp [firstIx] at h,fun j hj=>by simp [firstIx] at hj⟩
 | succ n ih =>
  by_cases h1:firstIx p n<n
  ·have e:firstIx p (n+1)=firstIx p n:=by simp only [firstIx];rw [if_pos h1]
   rw [e];exact ⟨fun _=>ih.1 h1,ih.2⟩
  ·have h0:=firstIx_le p n
   have hn:firstIx p n=n:=by omega
   rw [hn] at ih
   by_cases h2:p n
   ·have e:firstIx p (n+1)=n:=by simp only [firstIx];rw [if_neg h1,if_pos h2]
    rw [e];exact ⟨fun _=>h2,ih.2⟩
   ·have e:firstIx p (n+1)=n+1:=by simp only [firstIx];rw [if_neg h1,if_neg h2]
    rw [e];exact ⟨fun h=>by omega,fun j hj=>by
     by_cases ej:j=n
     ·subst ej;exact h2
     ·exact ih.2 j (by omega)⟩
theorem findF_miss {xs:List Int} {v:Int} (h:¬ 0≤findF xs v):∀ i,i<xs.length→ix xs i ≠ v:=by
 intro i hi e
 have hs:=firstIx_sr (fun i=>ix xs i=v) xs.length
 unfold findF at h
 split at h
 ·omega
 ·next g=>exact hs.2 i (by omega) e
theorem findF_hit {xs:List Int} {v:Int} (h:0≤findF xs v):∃ i,i<xs.length∧ix xs i=v:=by
 have hs:=firstIx_sr (fun i=>ix xs i=v) xs.length
 unfold findF at h
 split at h
 ·next g=>exact ⟨_,g,hs.1 g⟩
 ·omega
theorem set_len {us:List Int} {n:Nat} (h:SetTo us n us.length):us.length≤n:=by
 refine pigeon n us.length (ix us) (fun i hi=>?_) (fun i j hij hj e=>?_)
 ·have:=(h i hi).1;omega
 ·have h2:=findF_miss (h j hj).2 i (by rw [List.length_take];omega)
  apply h2
  rw [← e];simp [ix,hij]
noncomputable def backF (cols:List Int) (k:Nat):List Int:=(List.range k).map fun (i:Nat)=>findF cols (i:Int)
end Go.Proofs.YteiaofkgbdlpoaaDoor
namespace Go.Proofs.YteiaofkgbdlpoaaDoor
set_option linter.unusedSimpArgs false
set_option linter.unusedVariables false
open Go.RowKit
def AtomOK (nv:Int) (x:AtomD):Prop:=nameOK x.nm=true∧(1≤x.vs.length∧x.vs.length≤5)∧∀ j,j<x.vs.length→0≤ix x.vs j∧ix x.vs j≤nv - 1
def HeadOK (nv:Int) (n:Nat):Prop:=(1≤nv∧nv≤5)∧1≤n∧n≤4
def CovOK (nv:Int) (xs:List AtomD):Prop:=∀ v:Nat,(v:Int)<nv→∃ i,i<xs.length∧occ (ax xs i).vs v=true
open Classical in
noncomputable def qOK (nv:Int) (xs:List AtomD) (us:List Int):Bool :=
 decide (HeadOK nv xs.length∧SetTo us nv us.length∧(∀ i,i<xs.length→AtomOK nv (ax xs i))∧CovOK nv xs)
section
variable {nv:Int} {xs:List AtomD} {us:List Int}
theorem qOK_yes (h1:HeadOK nv xs.length) (h2:SetTo us nv us.length) (h3:∀ i,i<xs.length→AtomOK nv (ax xs i)) (h4:CovOK nv xs):qOK nv xs us=true:=by
 simp only [qOK,decide_eq_true_eq];exact ⟨h1,h2,h3,h4⟩
theorem qOK_out (h:qOK nv xs us=true):HeadOK nv xs.length∧SetTo us nv us.length∧(∀ i,i<xs.length→AtomOK nv (ax xs i))∧CovOK nv xs:=by
 simpa only [qOK,decide_eq_true_eq] using h
theorem qOK_head (h:¬ HeadOK nv xs.length):qOK nv xs us=false:=by simp only [qOK,decide_eq_false_iff_not];exact fun g=>h g.1
theorem qOK_set (h:¬ SetTo us nv us.length):qOK nv xs us=false:=by simp only [qOK,decide_eq_false_iff_not];exact fun g=>h g.2.1
theorem qOK_atom {i:Nat} (hi:i<xs.length) (h:¬ AtomOK nv (ax xs i)):qOK nv xs us=false:=by simp only [qOK,decide_eq_false_iff_not];exact fun g=>h (g.2.2.1 i hi)
theorem qOK_cov (h:¬ CovOK nv xs):qOK nv xs us=false:=by simp only [qOK,decide_eq_false_iff_not];exact fun g=>h g.2.2.2
theorem qOK_long (h0:0≤nv) (h:¬ (us.length:Int)≤nv):qOK nv xs us=false:=by
 refine qOK_set (fun g=>h ?_)
 obtain ⟨n,rfl⟩:=Int.eq_ofNat_of_zero_le h0
 have:=set_len g;omega
end
end Go.Proofs.YteiaofkgbdlpoaaDoor
