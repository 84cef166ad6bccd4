/- Lemmas for the proof of FnExactMaximumPacking, part 9 of 15: no condition of their own. -/
import Derived.Test.YteiaofkgbdlpoaaDoorJ3
import Derived.Test.YteiaofkgbdlpoaaDoorJ1
import Derived.Test.YteiaofkgbdlpoaaDoorJ2
import Derived.Test.YteiaofkgbdlpoaaDoorJ8
import Derived.Deep.DeepCutAuto
import Derived.Deep.CutBlock
import Derived.RegionTactic
import Derived.ChangeAlike
namespace Go.Proofs.YteiaofkgbdlpoaaDoor
set_option linter.unusedSimpArgs false
set_option linter.unusedVariables false
open Go.RowKit
structure RatD where
 num:Int
 den:Int
def ratR:Rep RatD:=fun _ _ _ _ cs x=>cs=[.int .i64 x.num,.int .i64 x.den]∧I64 x.num∧I64 x.den
theorem ratRep:RepOK ratR:=⟨fun h _=>h,fun h _ _=>h,fun h=>h⟩
abbrev RatsA:=SlA 2 ratR
def qx (xs:List RatD) (i:Nat):RatD:=xs.getD i ⟨0,0⟩
theorem qx_lt {xs:List RatD} {i:Nat} (h:i<xs.length):qx xs i=xs[i]:=by simp [qx,h]
theorem qx_get {xs:List RatD} {i:Nat} (h:i<xs.length):xs[i]? = some (qx xs i):=by rw [qx_lt h];simp [h]
theorem ratsSome {fz:Bool} {lo hi:Nat} {w:World} {a:Option Addr} {n c:Nat} {xs:List RatD} (h:RatsA fz lo hi w a n c xs) (hn:0<n):∃ b off,a=some ⟨b,off,none⟩:=by
 obtain ⟨b,off,ha,_⟩:=h.open hn
 exact ⟨b,off,ha⟩
theorem ratsAt {fz:Bool} {lo hi:Nat} {w:World} {b off n c:Nat} {xs:List RatD} (h:RatsA fz lo hi w (some ⟨b,off,none⟩) n c xs) {i:Nat} (hi':i<n) :
 lo≤b∧b<hi∧I64 (qx xs i).num∧I64 (qx xs i).den∧w.cell? ⟨b,off+i*2,none⟩=some (.int .i64 (qx xs i).num)∧w.cell? ⟨b,off+i*2+1,none⟩=some (.int .i64 (qx xs i).den) ∧
  (fz=true→w.frozen? ⟨b,off+i*2,none⟩=false∧w.frozen? ⟨b,off+i*2+1,none⟩=false):=by
 obtain ⟨b',off',ha,hl,hb,hc⟩:=h.open (by omega)
 simp only [Option.some.injEq,Addr.mk.injEq,and_true] at ha
 obtain ⟨rfl,rfl⟩:=ha
 obtain ⟨cs,x,g1,g2,⟨rfl,g3,g5⟩,g4⟩:=hc i hi'
 have k0:=g4 0 (by omega)
 have k1:=g4 1 (by omega)
 have hx:qx xs i=x:=by simp [qx,g2]
 rw [hx]
 exact ⟨hl,hb,g3,g5,by simpa using k0.1,by simpa using k1.1,fun hf=>⟨by simpa using k0.2 hf,by simpa using k1.2 hf⟩⟩
theorem ratsMk {fz:Bool} {lo hi:Nat} {w:World} {b off n c:Nat} {xs:List RatD} (hl:xs.length=n) (hnc:n≤c) (hcm:c≤maxLen) (h1:lo≤b) (h2:b<hi)
 (h:∀ i,i<n→I64 (qx xs i).num∧I64 (qx xs i).den∧w.cell? ⟨b,off+i*2,none⟩=some (.int .i64 (qx xs i).num)∧w.cell? ⟨b,off+i*2+1,none⟩=some (.int .i64 (qx xs i).den)∧(fz=true→w.frozen? ⟨b,off+i*2,none⟩=false∧w.frozen? ⟨b,off+i*2+1,none⟩=false)) :
 RatsA fz lo hi w (some ⟨b,off,none⟩) n c xs:=by
 refine ⟨hl,hnc,hcm,fun _=>⟨b,off,rfl,h1,h2,fun i hi=>?_⟩,fun h=>(by cases h)⟩
 obtain ⟨g1,g2,g3,g4,g5⟩:=h i hi
 refine ⟨[.int .i64 (qx xs i).num,.int .i64 (qx xs i).den],qx xs i,rfl,qx_get (by omega),⟨rfl,g1,g2⟩,fun j hj=>?_⟩
 rcases (by omega:j=0∨j=1) with rfl | rfl
 ·exact ⟨by simpa using g3,fun hf=>by simpa using (g5 hf).1⟩
 ·exact ⟨by simpa using g4,fun hf=>(g5 hf).2⟩
def flatR:List RatD→List Value
 | []=>[]
 | x :: xs=>.int .i64 x.num :: .int .i64 x.den :: flatR xs
theorem flatR_len (xs:List RatD):(flatR xs).length=xs.length*2:=by
 induction xs with
 | nil=>rfl
 | cons x xs ih=>simp [flatR,ih];omega
theorem flatR_at {xs:List RatD} {i:Nat} (h:i<xs.length):(flatR xs)[i*2]? = some (.int .i64 (qx xs i).num)∧(flatR xs)[i*2+1]? = some (.int .i64 (qx xs i).den):=by
 induction xs generalizing i with
 | nil=>simp at h
 | cons x xs ih =>
  cases i with
  | zero=>simp [flatR,qx]
  | succ i =>
   have:=ih (i:=i) (by simpa using h)
   have e:(i+1)*2=i*2+1+1:=by omega
   have hq:qx (x :: xs) (i+1)=qx xs i:=by simp [qx]
   rw [hq,e]
   simpa [flatR] using this
def RatsOK (xs:List RatD):Prop:=∀ x∈xs,I64 x.num∧I64 x.den
theorem RatsOK.at {xs:List RatD} (h:RatsOK xs) {i:Nat} (hi:i<xs.length):I64 (qx xs i).num∧I64 (qx xs i).den:=by rw [qx_lt hi];exact h _ (List.getElem_mem _)
def OwnR (base:Nat) (w:World) (a:Option Addr) (n c:Nat) (xs:List RatD):Prop:=OwnF 43 2 base w a n c (flatR xs)∧RatsOK xs
theorem OwnR.len {base:Nat} {w:World} {a:Option Addr} {n c:Nat} {xs:List RatD} (h:OwnR base w a n c xs):xs.length=n:=by
 have:=h.1.len;rw [flatR_len] at this;omega
theorem OwnR.keep {base:Nat} {w w':World} {a:Option Addr} {n c:Nat} {xs:List RatD} (h:OwnR base w a n c xs) (hk:Keeps base w.heap.size w w'):OwnR base w' a n c xs:=⟨h.1.keep hk,h.2⟩
def matR:Rep (List RatD):=fun fz lo hi w cs xs=>∃ a n c,cs=[.slice a n c]∧RatsA fz lo hi w a n c xs
theorem matRep:RepOK matR :=
 ⟨fun ⟨a,n,c,h1,h2⟩ hk=>⟨a,n,c,h1,SlA.keep ratRep h2 hk⟩,fun ⟨a,n,c,h1,h2⟩ g1 g2=>⟨a,n,c,h1,SlA.wide ratRep h2 g1 g2⟩,fun ⟨a,n,c,h1,h2⟩=>⟨a,n,c,h1,SlA.read ratRep h2⟩⟩
abbrev MatA:=SlA 1 matR
def mx (xss:List (List RatD)) (i:Nat):List RatD:=xss.getD i []
theorem mx_lt {xss:List (List RatD)} {i:Nat} (h:i<xss.length):mx xss i=xss[i]:=by simp [mx,h]
theorem matSome {fz:Bool} {lo hi:Nat} {w:World} {a:Option Addr} {n c:Nat} {xss:List (List RatD)} (h:MatA fz lo hi w a n c xss) (hn:0<n):∃ b off,a=some ⟨b,off,none⟩:=by
 obtain ⟨b,off,ha,_⟩:=h.open hn
 exact ⟨b,off,ha⟩
theorem matAt {fz:Bool} {lo hi:Nat} {w:World} {b off n c:Nat} {xss:List (List RatD)} (h:MatA fz lo hi w (some ⟨b,off,none⟩) n c xss) {i:Nat} (hi':i<n) :
 lo≤b∧b<hi∧∃ ra rn rc,w.cell? ⟨b,off+i,none⟩=some (.slice ra rn rc)∧RatsA fz lo hi w ra rn rc (mx xss i)∧(fz=true→w.frozen? ⟨b,off+i,none⟩=false):=by
 obtain ⟨b',off',ha,hl,hb,hc⟩:=h.open (by omega)
 simp only [Option.some.injEq,Addr.mk.injEq,and_true] at ha
 obtain ⟨rfl,rfl⟩:=ha
 obtain ⟨cs,x,g1,g2,⟨ra,rn,rc,rfl,g3⟩,g4⟩:=hc i hi'
 have g5:=g4 0 (by omega)
 have hx:mx xss i=x:=by simp [mx,g2]
 refine ⟨hl,hb,ra,rn,rc,by simpa using g5.1,by rw [hx];exact g3,by simpa using g5.2⟩
def mlens (xss:List (List RatD)):Nat→Nat
 | 0=>0
 | k+1=>mlens xss k+(mx xss k).length
def matSz (xss:List (List RatD)):Nat:=xss.length+mlens xss xss.length
theorem mlens_mono {xss:List (List RatD)} {i k:Nat} (h:i≤k):mlens xss i≤mlens xss k:=by
 induction k with
 | zero =>obtain rfl:i=0:=by omega
          exact Nat.le_refl _
 | succ k ih =>
  by_cases e:i=k+1
  ·subst e;exact Nat.le_refl _
  ·have:=ih (by omega);simp only [mlens];omega
section
variable {fz:Bool} {lo hi B lo' hi':Nat} {w w':World} {a:Option Addr} {n c:Nat} {xs:List RatD} {xss:List (List RatD)}
theorem beRats (h:RatsA fz lo hi w a n c xs) (hb:Below B w w') (hh:hi≤B):RatsA fz lo hi w' a n c xs:=SlA.be ratRep h hb hh
theorem kpRats (h:RatsA fz lo hi w a n c xs) (hb:Keeps lo hi w w'):RatsA fz lo hi w' a n c xs:=SlA.keep ratRep h hb
theorem wdRats (h:RatsA fz lo hi w a n c xs) (hl:lo'≤lo):RatsA fz lo' hi w a n c xs:=SlA.wide ratRep h hl (Nat.le_refl _)
theorem hgRats (h:RatsA fz lo hi w a n c xs) (hl:hi≤hi'):RatsA fz lo hi' w a n c xs:=SlA.wide ratRep h (Nat.le_refl _) hl
theorem beMat (h:MatA fz lo hi w a n c xss) (hb:Below B w w') (hh:hi≤B):MatA fz lo hi w' a n c xss:=SlA.be matRep h hb hh
theorem kpMat (h:MatA fz lo hi w a n c xss) (hb:Keeps lo hi w w'):MatA fz lo hi w' a n c xss:=SlA.keep matRep h hb
end
end Go.Proofs.YteiaofkgbdlpoaaDoor
namespace Go.Proofs.YteiaofkgbdlpoaaDoor
set_option linter.unusedSimpArgs false
set_option linter.unusedVariables false
open Go.RowKit
def ratDV (x:RatD):DV:=.agg [.int x.num,.int x.den]
abbrev ratsD (xs:List RatD):DV:=.sl 2 (xs.map ratDV)
theorem cxs_two {C:Nat→Nat→Prop} {w:World} {x y:Int} {us:List Value}:CXs C w [.int x,.int y] us↔us=[.int .i64 x,.int .i64 y]∧I64 x∧I64 y:=by
 constructor
 ·rintro ⟨u,t,rfl,⟨rfl,h1⟩,u2,t2,rfl,⟨rfl,h2⟩,rfl⟩;exact ⟨rfl,h1,h2⟩
 ·rintro ⟨rfl,h1,h2⟩;exact ⟨[.int .i64 x],_,rfl,⟨rfl,h1⟩,[.int .i64 y],[],rfl,⟨rfl,h2⟩,rfl⟩
end Go.Proofs.YteiaofkgbdlpoaaDoor
namespace Go.Proofs.YteiaofkgbdlpoaaDoor
set_option linter.unusedSimpArgs false
set_option linter.unusedVariables false
open Go.RowKit
end Go.Proofs.YteiaofkgbdlpoaaDoor
namespace Go.Proofs.YteiaofkgbdlpoaaDoor
set_option linter.unusedSimpArgs false
set_option linter.unusedVariables false
open Go.RowKit
def ratOK (n d:Int):Bool:=decide (1≤d∧d≤1000000000) && (decide (-1000000000≤n∧n≤1000000000) && decide (Nat.gcd n.natAbs d.toNat=1))
theorem ratOK_out {n d:Int} (h:ratOK n d=true):(1≤d∧d≤1000000000)∧(-1000000000≤n∧n≤1000000000)∧Nat.gcd n.natAbs d.toNat=1:=by
 simp only [ratOK,Bool.and_eq_true,decide_eq_true_eq] at h;exact ⟨h.1,h.2.1,h.2.2⟩
end Go.Proofs.YteiaofkgbdlpoaaDoor
namespace Go.Proofs.YteiaofkgbdlpoaaDoor
set_option linter.unusedSimpArgs false
set_option linter.unusedVariables false
open Go.RowKit
def newRat (n d:Int):Int×Int×Bool :=
 if d=0∨¬ (-4000000000000000000≤n∧n≤4000000000000000000)∨¬ (-4000000000000000000≤d∧d≤4000000000000000000) then (0,0,false)
 else
  let n':=if d<0 then -n else n
  let d':=if d<0 then -d else d
  let g:Int:=(Nat.gcd n'.natAbs d'.toNat:Nat)
  if ratOK (n'.tdiv g) (d'.tdiv g)=true then (n'.tdiv g,d'.tdiv g,true) else (0,0,false)
end Go.Proofs.YteiaofkgbdlpoaaDoor
namespace Go.Proofs.YteiaofkgbdlpoaaDoor
set_option linter.unusedSimpArgs false
set_option linter.unusedVariables false
open Go.RowKit
def bothOK (an ad bn bd:Int):Bool:=ratOK an ad && ratOK bn bd
def addR (an ad bn bd:Int):Int×Int×Bool:=if bothOK an ad bn bd=true then newRat (an*bd+bn*ad) (ad*bd) else (0,0,false)
def mulR (an ad bn bd:Int):Int×Int×Bool:=if bothOK an ad bn bd=true then newRat (an*bn) (ad*bd) else (0,0,false)
def divR (an ad bn bd:Int):Int×Int×Bool:=if bothOK an ad bn bd=true then newRat (an*bd) (ad*bn) else (0,0,false)
def subR (an ad bn bd:Int):Int×Int×Bool:=addR an ad (-bn) bd
def cmpRat (an ad bn bd:Int):Int:=if bothOK an ad bn bd=true then cmpI (an*bd) (bn*ad) else 0
end Go.Proofs.YteiaofkgbdlpoaaDoor
namespace Go.Proofs.YteiaofkgbdlpoaaDoor
set_option linter.unusedSimpArgs false
set_option linter.unusedVariables false
attribute [local go_sem ↓] reduceIte
attribute [local go_sem] Nat.reduceEqDiff Nat.reduceLT Nat.reduceAdd Nat.reduceLeDiff Nat.reduceMul Nat.reduceBEq Nat.reduceSub reduceCtorEq Int.reduceLE Int.reduceNeg Int.reduceLT
open Go.RowKit
def rq (t:Int×Int×Bool):RatD:=⟨t.1,t.2.1⟩
def vR (x:RatD):Bool:=ratOK x.num x.den
def addQ (x y:RatD):Int×Int×Bool:=addR x.num x.den y.num y.den
def subQ (x y:RatD):Int×Int×Bool:=subR x.num x.den y.num y.den
def mulQ (x y:RatD):Int×Int×Bool:=mulR x.num x.den y.num y.den
def divQ (x y:RatD):Int×Int×Bool:=divR x.num x.den y.num y.den
def cmpQ (x y:RatD):Int:=cmpRat x.num x.den y.num y.den
def FitQ (t:Int×Int×Bool):Prop:=(t.2.2=true→ratOK t.1 t.2.1=true)∧(t.2.2=false→t.1=0∧t.2.1=0)
theorem FitQ.i64 {t:Int×Int×Bool} (h:FitQ t):I64 t.1∧I64 t.2.1:=by
 obtain ⟨a,b,c⟩:=t
 cases c with
 | true =>
  obtain ⟨h1,h2,_⟩:=ratOK_out (h.1 rfl)
  dsimp only at h1 h2
  exact ⟨by unfold I64;dsimp only;omega,by unfold I64;dsimp only;omega⟩
 | false =>
  obtain ⟨h1,h2⟩:=h.2 rfl
  simp only at h1 h2
  subst h1;subst h2
  unfold I64;simp
section
variable (x y:RatD)
end
end Go.Proofs.YteiaofkgbdlpoaaDoor
namespace Go.Proofs.YteiaofkgbdlpoaaDoor
set_option linter.unusedSimpArgs false
set_option linter.unusedVariables false
attribute [local go_sem ↓] reduceIte
attribute [local go_sem] Nat.reduceEqDiff Nat.reduceLT Nat.reduceAdd Nat.reduceLeDiff Nat.reduceMul Nat.reduceBEq Nat.reduceSub reduceCtorEq Int.reduceLE Int.reduceNeg Int.reduceLT
open Go.RowKit
abbrev matD (M:List (List RatD)):DV:=.sl 1 (M.map ratsD)
def vL (l:List RatD):Bool:=l.all vR
def rowV (m:Nat) (r:List RatD):Bool:=decide (r.length=m) && vL r
def matOK (M:List (List RatD)) (n m:Nat):Bool:=decide (M.length=n) && M.all (rowV m)
def dotTo (a b:List RatD):Nat→Option RatD
 | 0=>some ⟨0,1⟩
 | k+1=>match dotTo a b k with
  | none=>none
  | some s=>if (mulQ (qx a k) (qx b k)).2.2=true∧(addQ s (rq (mulQ (qx a k) (qx b k)))).2.2=true then some (rq (addQ s (rq (mulQ (qx a k) (qx b k))))) else none
def dotF (a b:List RatD):Option RatD:=if a.length=b.length then dotTo a b a.length else none
def mvTo (M:List (List RatD)) (x:List RatD):Nat→Option (List RatD)
 | 0=>some []
 | k+1=>match mvTo M x k,dotF (mx M k) x with
  | some l,some y=>some (l ++ [y])
  | _,_=>none
def mvF (M:List (List RatD)) (x:List RatD):Option (List RatD):=mvTo M x M.length
def sameQ (a b:RatD):Bool:=decide (a.num=b.num) && decide (a.den=b.den)
def eqQ (a b:List RatD):Bool:=decide (a.length=b.length) && (List.range a.length).all fun i=>sameQ (qx a i) (qx b i)
end Go.Proofs.YteiaofkgbdlpoaaDoor
namespace Go.Proofs.YteiaofkgbdlpoaaDoor
set_option linter.unusedSimpArgs false
set_option linter.unusedVariables false
attribute [local go_sem ↓] reduceIte
attribute [local go_sem] Nat.reduceEqDiff Nat.reduceLT Nat.reduceAdd Nat.reduceLeDiff Nat.reduceMul Nat.reduceBEq Nat.reduceSub reduceCtorEq Int.reduceLE Int.reduceNeg Int.reduceLT
open Go.RowKit
def cQ (l:List RatD):List AV:=(flatD (l.map ratDV)).map .d
def elTo (f:RatD) (row piv:List RatD) (p:Nat):Nat→Option (List RatD)
 | 0=>some row
 | j+1=>match elTo f row piv p j with
  | none=>none
  | some r=>if (mulQ f (qx piv (p+j))).2.2=true∧(subQ (qx row (p+j)) (rq (mulQ f (qx piv (p+j))))).2.2=true then some (r.set (p+j) (rq (subQ (qx row (p+j)) (rq (mulQ f (qx piv (p+j))))))) else none
def elF (row piv:List RatD) (p:Nat):Option (List RatD):=if (divQ (qx row p) (qx piv p)).2.2=true then elTo (rq (divQ (qx row p) (qx piv p))) row piv p (row.length - p) else none
theorem outAs_cQ (ns:List Nat) (g:Nat) (l:List RatD):outAs ns g (cQ l)=cQ l:=by unfold cQ;exact outAs_mapd ..
theorem entAs_cQ (l:List RatD):entAs (cQ l)=cQ l:=by unfold cQ;exact entAs_mapd ..
theorem cQ_scrubs (fb fo:Nat→Bool) (l:List RatD):scrubs fb fo (cQ l)=cQ l:=by unfold cQ;exact scrubs_mapd ..
theorem cQ_scrubm (fb fo:Nat→Bool) (l:List RatD):List.map (scrub fb fo) (cQ l)=cQ l:=by rw [← scrubs_map];exact cQ_scrubs fb fo l
theorem cQ_renAs (ns:List Nat) (d:Nat) (l:List RatD):renAs ns d (cQ l)=cQ l:=by unfold cQ;exact renAs_mapd ..
attribute [go_sem] cQ_scrubs cQ_scrubm cQ_renAs outAs_cQ entAs_cQ
theorem nm_ex (i:Nat):∃ o:Nat,o=i+1000001:=⟨_,rfl⟩
noncomputable def nm (i:Nat):Nat:=Classical.choose (nm_ex i)
theorem nm_eq (i:Nat):nm i=i+1000001:=Classical.choose_spec (nm_ex i)
theorem nm_ne {i o:Nat} (h:o≤1000000):(nm i=o)=False:=by rw [nm_eq];exact eq_false (by omega)
theorem ne_nm {i o:Nat} (h:o≤1000000):(o=nm i)=False:=by rw [nm_eq];exact eq_false (by omega)
theorem nm_inj {i j:Nat}:(nm i=nm j)=(i=j):=by rw [nm_eq,nm_eq];exact propext ⟨fun h=>by omega,fun h=>by omega⟩
theorem nm_beq {i o:Nat} (h:o≤1000000):(nm i == o)=false:=by rw [beq_eq_false_iff_ne,nm_eq];omega
noncomputable def mC (n N:Nat):List AV:=(List.range n).map fun i=>.arr (nm i) 2 N
theorem mC_len (n N:Nat):(mC n N).length=n:=by simp [mC]
theorem mC_getD {n N i:Nat} (h:i<n) (d:AV):(mC n N).getD i d=.arr (nm i) 2 N:=by simp [mC,List.getD,h]
theorem mC_scrubm {fb fo:Nat→Bool} (n N:Nat) (h:∀ i,fo (nm i)=true):List.map (scrub fb fo) (mC n N)=mC n N:=by
 unfold mC
 rw [List.map_map]
 apply List.map_congr_left
 intro i _
 simp only [Function.comp_apply,scrub]
 rw [if_pos (h i)]
theorem mC_scrubs {fb fo:Nat→Bool} (n N:Nat) (h:∀ i,fo (nm i)=true):scrubs fb fo (mC n N)=mC n N:=by rw [scrubs_map];exact mC_scrubm n N h
theorem mC_sm {fb:Nat→Bool} {d:Nat} (n N:Nat) (h:d≤1000000):List.map (scrub fb (fun o=>!(o == d))) (mC n N)=mC n N:=mC_scrubm n N (fun i=>by rw [nm_beq h];rfl)
theorem mC_ss {fb:Nat→Bool} {d:Nat} (n N:Nat) (h:d≤1000000):scrubs fb (fun o=>!(o == d)) (mC n N)=mC n N:=mC_scrubs n N (fun i=>by rw [nm_beq h];rfl)
def mkF0 (tl:List (Nat×AV)) (ol:List (Nat×List AV)) (mc:List AV) (rows:List (List RatD)):AS :=
 ⟨lkT tl,fun o=>if o=1000000 then some mc else if 1000001≤o then (if o - 1000001<rows.length then some (cQ (mx rows (o - 1000001))) else none) else lkO ol o⟩
theorem mkF_ex (tl:List (Nat×AV)) (ol:List (Nat×List AV)) (mc:List AV) (rows:List (List RatD)):∃ s:AS,s=mkF0 tl ol mc rows:=⟨_,rfl⟩
noncomputable def mkF (tl:List (Nat×AV)) (ol:List (Nat×List AV)) (mc:List AV) (rows:List (List RatD)):AS:=Classical.choose (mkF_ex tl ol mc rows)
theorem mkF_eq (tl:List (Nat×AV)) (ol:List (Nat×List AV)) (mc:List AV) (rows:List (List RatD)):mkF tl ol mc rows=mkF0 tl ol mc rows:=Classical.choose_spec (mkF_ex tl ol mc rows)
section
variable {tl:List (Nat×AV)} {ol:List (Nat×List AV)} {mc:List AV} {rows:List (List RatD)}
theorem mkF_tm (tl:List (Nat×AV)) (ol:List (Nat×List AV)) (mc:List AV) (rows:List (List RatD)) (t:Nat):(mkF tl ol mc rows).tm t=lkT tl t:=by rw [mkF_eq];rfl
theorem mkF_ob0 (tl:List (Nat×AV)) (ol:List (Nat×List AV)) (mc:List AV) (rows:List (List RatD)):(mkF tl ol mc rows).ob 1000000=some mc:=by rw [mkF_eq];rfl
theorem mkF_obr {i:Nat} (h:i<rows.length):(mkF tl ol mc rows).ob (nm i)=some (cQ (mx rows i)):=by
 rw [mkF_eq,nm_eq]
 simp only [mkF0]
 rw [if_neg (by omega),if_pos (by omega),Nat.add_sub_cancel,if_pos h]
theorem mkF_obl {o:Nat} (h:o<1000000):(mkF tl ol mc rows).ob o=lkO ol o:=by
 rw [mkF_eq]
 simp only [mkF0]
 rw [if_neg (by omega),if_neg (by omega)]
end
attribute [go_sem] mkF_tm mkF_ob0 mkF_obr mkF_obl mC_sm mC_ss mC_getD mC_len nm_ne ne_nm nm_inj nm_beq
end Go.Proofs.YteiaofkgbdlpoaaDoor
namespace Go.Proofs.YteiaofkgbdlpoaaDoor
set_option linter.unusedSimpArgs false
set_option linter.unusedVariables false
attribute [local go_sem ↓] reduceIte
attribute [local go_sem] Nat.reduceEqDiff Nat.reduceLT Nat.reduceAdd Nat.reduceLeDiff Nat.reduceMul Nat.reduceBEq Nat.reduceSub reduceCtorEq Int.reduceLE Int.reduceNeg Int.reduceLT
open Go.RowKit
def stTo (rows:List (List RatD)) (p:Nat):Nat→Option (List (List RatD))
 | 0=>some rows
 | i+1=>match stTo rows p i with
  | none=>none
  | some R=>if i=p∨(qx (mx R i) p).num=0 then some R else match elF (mx R i) (mx R p) p with
   | some r=>some (R.set i r)
   | none=>none
def stF (rows:List (List RatD)) (p:Nat):Option (List (List RatD)):=stTo rows p rows.length
def Shp (n N:Nat) (R:List (List RatD)):Prop:=R.length=n∧∀ i,i<n→(mx R i).length=N
theorem mx_set {R:List (List RatD)} {i j:Nat} {r:List RatD} (h:i<R.length):mx (R.set i r) j=if j=i then r else mx R j:=by
 simp only [mx,List.getD,List.getElem?_set]
 by_cases e:i=j
 ·subst e;simp [h]
 ·rw [if_neg e,if_neg (fun h=>e h.symm)]
theorem Shp.set {n N:Nat} {R:List (List RatD)} (h:Shp n N R) {i:Nat} {r:List RatD} (hi:i<n) (hr:r.length=N):Shp n N (R.set i r):=by
 refine ⟨by rw [List.length_set];exact h.1,fun j hj=>?_⟩
 rw [mx_set (by rw [h.1];exact hi)]
 split
 ·exact hr
 ·exact h.2 j hj
end Go.Proofs.YteiaofkgbdlpoaaDoor
namespace Go.Proofs.YteiaofkgbdlpoaaDoor
set_option linter.unusedSimpArgs false
set_option linter.unusedVariables false
open Go.RowKit
section
variable {P:Program} {ops:Array Oper} {Q:Exit→Act→World→Prop} {i:Nat} {o:Oper} {nx nx':Act→World→Prop} {a:Act} {w:World}
end
section
variable {ty:TypeId→Option TyI}
end
theorem nb_ex (b:Nat):∃ o:Nat,o=1000000+(1000000+b):=⟨_,rfl⟩
noncomputable def nb (b:Nat):Nat:=Classical.choose (nb_ex b)
theorem nb_eq (b:Nat):nb b=1000000+(1000000+b):=Classical.choose_spec (nb_ex b)
theorem nb_ne {i o:Nat} (h:o≤1000000):(nb i=o)=False:=by rw [nb_eq];exact eq_false (by omega)
theorem ne_nb {i o:Nat} (h:o≤1000000):(o=nb i)=False:=by rw [nb_eq];exact eq_false (by omega)
theorem nb_inj {i j:Nat}:(nb i=nb j)=(i=j):=by rw [nb_eq,nb_eq];exact propext ⟨fun h=>by omega,fun h=>by omega⟩
theorem nb_beq {i o:Nat} (h:o≤1000000):(nb i == o)=false:=by rw [beq_eq_false_iff_ne,nb_eq];omega
theorem beq_nb {i o:Nat} (h:o≤1000000):(o == nb i)=false:=by rw [beq_eq_false_iff_ne,nb_eq];omega
def hdV (b n c:Nat):DV:=.hv (.slice (some ⟨b,0,none⟩) n c)
noncomputable def rowSt (ob:Nat→Option (List AV)) (sx:Nat→AV) (tr b c n:Nat) (cells:List AV):AS :=
 ⟨fun t=>if t=tr then .d (hdV b n c) else scrub (fun _=>true) (fun o=>!(o == nb b)) (sx t),fun o=>if o=nb b then some cells else (ob o).map (List.map (scrub (fun _=>true) (fun o=>!(o == nb b))))⟩
section
variable {P:Cx→Prop} {N:Nat} {Q:Exit→AS→Prop} {s:AS} {ty:TypeId→Option TyI}
def keptT (ds:List Nat) (d0:Nat) (x0:AV) (s:AS):Nat→AV:=fun t=>if t=d0 then x0 else if ds.contains t=true then .junk else s.tm t
end
end Go.Proofs.YteiaofkgbdlpoaaDoor
namespace Go.Proofs.YteiaofkgbdlpoaaDoor
set_option linter.unusedSimpArgs false
set_option linter.unusedVariables false
open Go.RowKit
def obN (ns:List Nat) (R:List (List RatD)) (o:Nat):Option (List AV):=match ns.idxOf? o with
 | some i=>(R[i]?).map cQ
 | none=>none
theorem cQ_scr (fb fo:Nat→Bool) (l:List RatD):List.map (scrub fb fo) (cQ l)=cQ l:=by
 unfold cQ
 rw [← scrubs_map]
 exact inert_d _ fb fo
theorem obN_scr (fb fo:Nat→Bool) (ns:List Nat) (R:List (List RatD)) (o:Nat):(obN ns R o).map (List.map (scrub fb fo))=obN ns R o:=by
 unfold obN
 split
 ·rename_i i _
  cases R[i]? with
  | none=>rfl
  | some r=>simp only [Option.map_some,cQ_scr]
 ·rfl
theorem obN_scrs (fb fo:Nat→Bool) (ns:List Nat) (R:List (List RatD)) (o:Nat):(obN ns R o).map (scrubs fb fo)=obN ns R o:=by
 rw [← scrubs_eq_map];exact obN_scr fb fo ns R o
theorem idx_at {ns:List Nat} (hn:ns.Nodup) {i:Nat} (h:i<ns.length):ns.idxOf? (ns.getD i 0)=some i:=by
 have e:ns.getD i 0=ns[i]:=by simp [List.getD,h]
 rw [e,List.idxOf?,List.findIdx?_eq_some_iff_getElem]
 refine ⟨h,by simp,fun k hk=>?_⟩
 have:=List.nodup_iff_pairwise_ne.1 hn
 have h2:=List.pairwise_iff_getElem.1 this k i (by omega) h hk
 simpa using h2
theorem obN_at {ns:List Nat} {R:List (List RatD)} (hn:ns.Nodup) (hl:R.length=ns.length) {i:Nat} (h:i<ns.length):obN ns R (ns.getD i 0)=some (cQ (mx R i)):=by
 unfold obN
 rw [idx_at hn h]
 have hr:i<R.length:=by omega
 simp only [List.getElem?_eq_getElem hr,Option.map_some,mx_lt hr]
theorem mkB_ex (tl:List (Nat×AV)) (ns:List Nat) (R:List (List RatD)):∃ s:AS,s=⟨lkT tl,obN ns R⟩:=⟨_,rfl⟩
noncomputable def mkB (tl:List (Nat×AV)) (ns:List Nat) (R:List (List RatD)):AS:=Classical.choose (mkB_ex tl ns R)
theorem mkB_eq (tl:List (Nat×AV)) (ns:List Nat) (R:List (List RatD)):mkB tl ns R=⟨lkT tl,obN ns R⟩:=Classical.choose_spec (mkB_ex tl ns R)
theorem mkB_tm (tl:List (Nat×AV)) (ns:List Nat) (R:List (List RatD)) (t:Nat):(mkB tl ns R).tm t=lkT tl t:=by rw [mkB_eq]
theorem mkB_ob (tl:List (Nat×AV)) (ns:List Nat) (R:List (List RatD)) (o:Nat):(mkB tl ns R).ob o=obN ns R o:=by rw [mkB_eq]
structure Mat (n N:Nat) where
 ns:List Nat
 R:List (List RatD)
 hl:ns.length=n
 hs:Shp n N R
 nd:ns.Nodup
 hb:∀ x∈ns,1000000<x
namespace Mat
variable {n N:Nat}
def nm (M:Mat n N) (i:Nat):Nat:=M.ns.getD i 0
def row (M:Mat n N) (i:Nat):List RatD:=mx M.R i
def hdr (M:Mat n N):List AV:=M.ns.map fun x=>.arr x 2 N
end Mat
section
variable {n N:Nat}
theorem nmM_mem {M:Mat n N} {i:Nat} (h:i<n):M.nm i∈M.ns:=by
 have:i<M.ns.length:=by rw [M.hl];exact h
 simp [Mat.nm,List.getD,this]
theorem nmM_ne {M:Mat n N} {i o:Nat} (h:i<n) (ho:o≤1000000):(M.nm i=o)=False:=by
 have:=M.hb _ (nmM_mem (M:=M) h)
 exact eq_false (by omega)
theorem ne_nmM {M:Mat n N} {i o:Nat} (h:i<n) (ho:o≤1000000):(o=M.nm i)=False:=by
 have:=M.hb _ (nmM_mem (M:=M) h)
 exact eq_false (by omega)
theorem nmM_inj {M:Mat n N} {i j:Nat} (h:i<n) (hj:j<n):(M.nm i=M.nm j)=(i=j):=by
 refine propext ⟨fun e=>?_,fun e=>by rw [e]⟩
 have h1:=idx_at M.nd (i:=i) (by rw [M.hl];exact h)
 have h2:=idx_at M.nd (i:=j) (by rw [M.hl];exact hj)
 have e:M.ns.getD i 0=M.ns.getD j 0:=e
 rw [e,h2] at h1
 exact (Option.some.inj h1).symm
theorem nmM_beq {M:Mat n N} {i o:Nat} (h:i<n) (ho:o≤1000000):(M.nm i == o)=false:=by
 rw [beq_eq_false_iff_ne];exact fun e=>(nmM_ne h ho).mp e
theorem hdrM_len (M:Mat n N):M.hdr.length=n:=by simp [Mat.hdr,M.hl]
theorem hdrM_getD {M:Mat n N} {i:Nat} (h:i<n) (d:AV):M.hdr.getD i d=.arr (M.nm i) 2 N:=by
 have:i<M.ns.length:=by rw [M.hl];exact h
 simp [Mat.hdr,Mat.nm,List.getD,this]
theorem hdrM_scr {fb fo:Nat→Bool} {M:Mat n N} (h:∀ x,1000000<x→fo x=true):List.map (scrub fb fo) M.hdr=M.hdr:=by
 unfold Mat.hdr
 rw [List.map_map]
 apply List.map_congr_left
 intro x hx
 simp only [Function.comp_apply,scrub]
 rw [if_pos (h x (M.hb x hx))]
theorem hdrM_sm {fb:Nat→Bool} {d:Nat} (M:Mat n N) (h:d≤1000000):List.map (scrub fb (fun o=>!(o == d))) M.hdr=M.hdr:=hdrM_scr fun x hx=>by
 have:(x == d)=false:=by rw [beq_eq_false_iff_ne];omega
 rw [this];rfl
theorem hdrM_ss {fb:Nat→Bool} {d:Nat} (M:Mat n N) (h:d≤1000000):scrubs fb (fun o=>!(o == d)) M.hdr=M.hdr:=by rw [scrubs_map];exact hdrM_sm M h
theorem hdrM_tm {fb:Nat→Bool} (M:Mat n N):List.map (scrub fb (fun _=>true)) M.hdr=M.hdr:=hdrM_scr fun _ _=>rfl
def swapL {α:Type} (l:List α) (i j:Nat) (d:α):List α:=(l.set j (l.getD i d)).set i (l.getD j d)
theorem swapL_len {α:Type} (l:List α) (i j:Nat) (d:α):(swapL l i j d).length=l.length:=by simp [swapL]
theorem swapL_at {α:Type} {l:List α} {i j:Nat} {d:α} (hi:i<l.length) (hj:j<l.length) (k:Nat):(swapL l i j d).getD k d=l.getD (if k=i then j else if k=j then i else k) d:=by
 unfold swapL
 simp only [List.getD,List.getElem?_set,List.length_set]
 by_cases h1:i=k
 ·subst h1;simp [hi]
 ·have h1':¬ k=i:=fun e=>h1 e.symm
  rw [if_neg h1,if_neg h1']
  by_cases h2:j=k
  ·subst h2;simp [hj]
  ·have h2':¬ k=j:=fun e=>h2 e.symm
   rw [if_neg h2,if_neg h2']
theorem getD_mem {l:List Nat} {i:Nat} (h:i<l.length):l.getD i 0∈l:=by simp [List.getD,h]
theorem nodup_inj {l:List Nat} (hn:l.Nodup) {i j:Nat} (hi:i<l.length) (hj:j<l.length) (e:l.getD i 0=l.getD j 0):i=j:=by
 have h1:=idx_at hn hi
 have h2:=idx_at hn hj
 rw [e,h2] at h1
 exact (Option.some.inj h1).symm
namespace Mat
def swap (M:Mat n N) (i j:Nat) (hi:i<n) (hj:j<n):Mat n N where
 ns:=swapL M.ns i j 0
 R:=swapL M.R i j []
 hl:=by rw [swapL_len,M.hl]
 hs:=by
  refine ⟨by rw [swapL_len,M.hs.1],fun k hk=>?_⟩
  show ((swapL M.R i j []).getD k []).length=N
  rw [swapL_at (by rw [M.hs.1];exact hi) (by rw [M.hs.1];exact hj)]
  exact M.hs.2 _ (by split <;> (try split) <;> omega)
 nd:=by
  have hl:=M.hl
  rw [List.nodup_iff_pairwise_ne,List.pairwise_iff_getElem]
  intro a b ha hb hab e
  rw [swapL_len] at ha hb
  have ea:(swapL M.ns i j 0).getD a 0=(swapL M.ns i j 0).getD b 0:=by simp [List.getD,swapL_len,ha,hb,e]
  rw [swapL_at (by omega) (by omega),swapL_at (by omega) (by omega)] at ea
  have:=nodup_inj M.nd (by split <;> (try split) <;> omega) (by split <;> (try split) <;> omega) ea
  revert this
  split <;> (try split) <;> (try split) <;> (try split) <;> omega
 hb:=by
  have hl:=M.hl
  intro x hx
  obtain ⟨a,ha,rfl⟩:=List.mem_iff_getElem.1 hx
  have ha2:a<M.ns.length:=by rw [swapL_len] at ha;exact ha
  have e:(swapL M.ns i j 0)[a]=(swapL M.ns i j 0).getD a 0:=by simp [List.getD,ha]
  rw [e,swapL_at (by omega) (by omega)]
  exact M.hb _ (getD_mem (by split <;> (try split) <;> omega))
end Mat
section
variable {M:Mat n N} {s:AS} {d:Nat}
end
def mkM0 (tl:List (Nat×AV)) (ol:List (Nat×List AV)) (M:Mat n N):AS :=
 ⟨lkT tl,fun o=>if o=500000 then some M.hdr else if 1000000<o then obN M.ns M.R o else lkO ol o⟩
theorem mkM_ex (tl:List (Nat×AV)) (ol:List (Nat×List AV)) (M:Mat n N):∃ s:AS,s=mkM0 tl ol M:=⟨_,rfl⟩
noncomputable def mkM (tl:List (Nat×AV)) (ol:List (Nat×List AV)) (M:Mat n N):AS:=Classical.choose (mkM_ex tl ol M)
theorem mkM_eq (tl:List (Nat×AV)) (ol:List (Nat×List AV)) (M:Mat n N):mkM tl ol M=mkM0 tl ol M:=Classical.choose_spec (mkM_ex tl ol M)
theorem mkM_tm (tl:List (Nat×AV)) (ol:List (Nat×List AV)) (M:Mat n N) (t:Nat):(mkM tl ol M).tm t=lkT tl t:=by rw [mkM_eq];rfl
theorem mkM_obh (tl:List (Nat×AV)) (ol:List (Nat×List AV)) (M:Mat n N):(mkM tl ol M).ob 500000=some M.hdr:=by rw [mkM_eq];rfl
theorem mkM_obr {tl:List (Nat×AV)} {ol:List (Nat×List AV)} {M:Mat n N} {i:Nat} (h:i<n):(mkM tl ol M).ob (M.nm i)=some (cQ (M.row i)):=by
 have hb:=M.hb _ (nmM_mem (M:=M) h)
 rw [mkM_eq]
 simp only [mkM0]
 rw [if_neg (by omega),if_pos hb]
 exact obN_at M.nd (by rw [M.hs.1,M.hl]) (by rw [M.hl];exact h)
theorem mkM_obl {tl:List (Nat×AV)} {ol:List (Nat×List AV)} {M:Mat n N} {o:Nat} (h:o<500000):(mkM tl ol M).ob o=lkO ol o:=by
 rw [mkM_eq]
 simp only [mkM0]
 rw [if_neg (by omega),if_neg (by omega)]
end
inductive HdOK (N:Nat):List DV→List Nat→Prop where
 | nil:HdOK N [] []
 | snoc {hs:List DV} {ns:List Nat} {b c:Nat}:HdOK N hs ns→N≤c→c≤maxLen→HdOK N (hs ++ [hdV b N c]) (ns ++ [nb b])
theorem HdOK.len {N:Nat} {hs:List DV} {ns:List Nat} (h:HdOK N hs ns):hs.length=ns.length:=by
 induction h with
 | nil=>rfl
 | snoc _ _ _ ih=>simp [ih]
theorem rowSt_tm (ob:Nat→Option (List AV)) (sx:Nat→AV) (tr b c n:Nat) (cells:List AV) (t:Nat):(rowSt ob sx tr b c n cells).tm t=if t=tr then .d (hdV b n c) else scrub (fun _=>true) (fun o=>!(o == nb b)) (sx t):=rfl
theorem rowSt_ob (ob:Nat→Option (List AV)) (sx:Nat→AV) (tr b c n:Nat) (cells:List AV) (o:Nat):(rowSt ob sx tr b c n cells).ob o=if o=nb b then some cells else (ob o).map (List.map (scrub (fun _=>true) (fun o=>!(o == nb b)))):=rfl
theorem keptT_eq (ds:List Nat) (d0:Nat) (x0:AV) (s:AS) (t:Nat):keptT ds d0 x0 s t=if t=d0 then x0 else if ds.contains t=true then .junk else s.tm t:=rfl
theorem cQ_scrs (fb fo:Nat→Bool) (l:List RatD):scrubs fb fo (cQ l)=cQ l:=by rw [scrubs_map];exact cQ_scr fb fo l
attribute [go_sem] rowSt_tm rowSt_ob keptT_eq cQ_scr cQ_scrs List.contains_cons List.contains_nil Bool.false_or Bool.or_false nb_ne ne_nb nb_inj nb_beq beq_nb obN_scr obN_scrs mkB_tm mkB_ob nmM_ne ne_nmM nmM_inj nmM_beq hdrM_len hdrM_getD hdrM_sm hdrM_ss hdrM_tm mkM_tm mkM_obh mkM_obr mkM_obl
end Go.Proofs.YteiaofkgbdlpoaaDoor
namespace Go.Proofs.YteiaofkgbdlpoaaDoor
set_option linter.unusedSimpArgs false
set_option linter.unusedVariables false
attribute [local go_sem ↓] reduceIte
attribute [local go_sem] Nat.reduceEqDiff Nat.reduceLT Nat.reduceAdd Nat.reduceLeDiff Nat.reduceMul Nat.reduceBEq Nat.reduceSub reduceCtorEq Int.reduceLE Int.reduceNeg Int.reduceLT
open Go.RowKit
def augF (rows:List (List RatD)) (right:List RatD):List (List RatD):=(List.range rows.length).map fun i=>mx rows i ++ [qx right i]
def pvF (R:List (List RatD)) (p n:Nat):Option Nat:=(List.range' p (n - p)).find? fun k=>!decide ((qx (mx R k) p).num=0)
def gsF (n:Nat) (R0:List (List RatD)):Nat→Option (List (List RatD))
 | 0=>some R0
 | p+1=>match gsF n R0 p with
  | none=>none
  | some R=>match pvF R p n with
   | none=>none
   | some k=>stF (swapL R p k []) p
def outTo (R:List (List RatD)) (n:Nat):Nat→Option (List RatD)
 | 0=>some []
 | p+1=>match outTo R n p with
  | none=>none
  | some l=>if (divQ (qx (mx R p) n) (qx (mx R p) p)).2.2=true then some (l ++ [rq (divQ (qx (mx R p) n) (qx (mx R p) p))]) else none
def solF (rows:List (List RatD)) (right:List RatD):Option (List RatD):=match gsF right.length (augF rows right) right.length with
 | none=>none
 | some R=>outTo R right.length right.length
structure SysOK (rows:List (List RatD)) (right:List RatD) (n:Nat):Prop where
 n1:1≤n
 n6:n≤6
 rl:rows.length=n
 bl:right.length=n
 rr:∀ i,i<n→(mx rows i).length=n
 rv:∀ i,i<n→vL (mx rows i)=true
 bv:vL right=true
end Go.Proofs.YteiaofkgbdlpoaaDoor
namespace Go.Proofs.YteiaofkgbdlpoaaDoor
set_option linter.unusedSimpArgs false
set_option linter.unusedVariables false
attribute [local go_sem ↓] reduceIte
attribute [local go_sem] Nat.reduceEqDiff Nat.reduceLT Nat.reduceAdd Nat.reduceLeDiff Nat.reduceMul Nat.reduceBEq Nat.reduceSub reduceCtorEq Int.reduceLE Int.reduceNeg Int.reduceLT
open Go.RowKit
section
variable {P:Cx→Prop} {N:Nat} {Q:Exit→AS→Prop} {s:AS} {ty:TypeId→Option TyI}
end
section
variable {s:AS} {d q1 q2:Nat} {l1 l2:List RatD}
end
abbrev whQ (l:List RatD):DV:=.wh 2 (l.map ratDV)
end Go.Proofs.YteiaofkgbdlpoaaDoor
namespace Go.Proofs.YteiaofkgbdlpoaaDoor
set_option linter.unusedSimpArgs false
set_option linter.unusedVariables false
attribute [local go_sem ↓] reduceIte
attribute [local go_sem] Nat.reduceEqDiff Nat.reduceLT Nat.reduceAdd Nat.reduceLeDiff Nat.reduceMul Nat.reduceBEq Nat.reduceSub reduceCtorEq Int.reduceLE Int.reduceNeg Int.reduceLT
open Go.RowKit
def lpD (A:List (List RatD)) (B C:List RatD):DV:=.agg [matD A,ratsD B,ratsD C]
def n15 (n:Nat):Bool:=decide ((1:Int)≤n∧(n:Int)≤5)
def lpV (A:List (List RatD)) (B C:List RatD):Bool:=n15 C.length && (n15 B.length && (matOK A B.length C.length && (vL B && vL C)))
section
variable (A:List (List RatD)) (B C:List RatD) (hA:A.length≤1048576) (hr:∀ i,i<A.length→(mx A i).length≤1048576) (hB:B.length≤1048576) (hC:C.length≤1048576)
include hA hr hB hC
end
end Go.Proofs.YteiaofkgbdlpoaaDoor
namespace Go.Proofs.YteiaofkgbdlpoaaDoor
set_option linter.unusedSimpArgs false
set_option linter.unusedVariables false
attribute [local go_sem ↓] reduceIte
attribute [local go_sem] Nat.reduceEqDiff Nat.reduceLT Nat.reduceAdd Nat.reduceLeDiff Nat.reduceMul Nat.reduceBEq Nat.reduceSub reduceCtorEq Int.reduceLE Int.reduceNeg Int.reduceLT
open Go.RowKit
def posL (x:List RatD):Bool:=(List.range x.length).all fun i=>decide (0≤(qx x i).num)
def sideL (l B:List RatD) (sg:Int):Bool:=(List.range l.length).all fun i=>decide (0≤sg*cmpQ (qx l i) (qx B i))
def feasF (A:List (List RatD)) (B C x:List RatD) (sg:Int):Bool:=lpV A B C && (decide (x.length=C.length) && (vL x && (posL x && match mvF A x with
 | some l=>sideL l B sg
 | none=>false)))
section
variable (A:List (List RatD)) (B C x:List RatD) (sg:Int) (hA:A.length≤1048576) (hr:∀ i,i<A.length→(mx A i).length≤1048576) (hB:B.length≤1048576) (hC:C.length≤1048576) (hx:x.length≤1048576) (hsg:sg=1∨sg = -1)
include hA hr hB hC hx hsg
end
end Go.Proofs.YteiaofkgbdlpoaaDoor
namespace Go.Proofs.YteiaofkgbdlpoaaDoor
set_option linter.unusedSimpArgs false
set_option linter.unusedVariables false
open Go.RowKit
section
variable (A:List (List RatD)) (B Cc:List RatD) (rows:List (List RatD)) (right:List RatD) (sg:Int)
def leafF (ch:List Nat) (outs:List (List RatD)):List (List RatD):=match solF (ch.map (mx rows ·)) (ch.map (qx right ·)) with
 | none=>outs
 | some x=>if feasF A B Cc x sg=true then (if outs.any (fun y=>eqQ x y)=true then outs else outs ++ [x]) else outs
def chF:Nat→Nat→List Nat→List (List RatD)→List (List RatD)
 | 0,_,ch,outs=>leafF A B Cc rows right sg ch outs
 | d+1,k,ch,outs=>(List.range' k (rows.length - k)).foldl (fun o j=>chF d (j+1) (ch ++ [j]) o) outs
end
structure RowsOK (A:List (List RatD)) (B Cc:List RatD) (rows:List (List RatD)) (right:List RatD) (n:Nat):Prop where
 n1:1≤n
 n5:n≤5
 lp:lpV A B Cc=true
 cl:Cc.length=n
 T:rows.length≤10
 bl:right.length=rows.length
 rr:∀ i,i<rows.length→(mx rows i).length=n
 rv:∀ i,i<rows.length→vL (mx rows i)=true
 bv:vL right=true
def unitR (n i:Nat):List RatD:=(List.range n).map fun k=>⟨if i=k then 1 else 0,1⟩
def rowsF (A:List (List RatD)) (n:Nat):List (List RatD):=A ++ (List.range n).map (unitR n)
def rightF (B:List RatD) (n:Nat):List RatD:=B ++ List.replicate n ⟨0,1⟩
def vertF (A:List (List RatD)) (B Cc:List RatD) (sg:Int):List (List RatD):=chF A B Cc (rowsF A Cc.length) (rightF B Cc.length) sg Cc.length 0 [] []
end Go.Proofs.YteiaofkgbdlpoaaDoor
namespace Go.Proofs.YteiaofkgbdlpoaaDoor
set_option linter.unusedSimpArgs false
set_option linter.unusedVariables false
open Go.RowKit
section
variable {ty:TypeId→Option TyI}
end
structure OutW (C:Nat→Nat→Prop) (w:World) (bo:Nat) (hdr:Value) (outs:List (List RatD)):Prop where
 lt:bo<w.heap.size
 noC:∀ i,¬ C bo i
 cell:w.cell? ⟨bo,0,none⟩=some hdr
 frz:w.frozen? ⟨bo,0,none⟩=false
 buf:∃ a m c vs,hdr=.slice a m c∧OwnF 28 1 0 w a m c vs∧CXk C w 1 (outs.map whQ) vs∧∀ b,a=some ⟨b,0,none⟩→b ≠ bo∧∀ i,¬ C b i
structure ChR (C C':Nat→Nat→Prop) (w w':World) (bo:Nat) (hdr hdr':Value):Prop where
 os:w'.os=w.os
 tape:w'.tape=w.tape
 output:w'.output=w.output
 size:w.heap.size≤w'.heap.size
 block:∀ k,k<w.heap.size→k ≠ bo→hdr.ownBlock ≠ some k→w'.heap[k]? = w.heap[k]?
 own:∀ b,hdr'.ownBlock=some b→hdr.ownBlock=some b∨w.heap.size≤b
 cc:∀ b i,C b i→C' b i
 cs:∀ b i,C' b i→b<w'.heap.size
 lc:∀ b i,C' b i→b<w.heap.size→C b i
 uf:∀ b i,C' b i→w.heap.size≤b→w'.frozen? ⟨b,i,none⟩=false
theorem ChR.refl {C:Nat→Nat→Prop} {w:World} (bo:Nat) (hdr:Value) (hc:∀ b i,C b i→b<w.heap.size):ChR C C w w bo hdr hdr :=
 ⟨rfl,rfl,rfl,Nat.le_refl _,fun _ _ _ _=>rfl,fun _ h=>.inl h,fun _ _ h=>h,hc,fun _ _ h _=>h,fun b i h hz=>by have:=hc b i h;omega⟩
theorem ChR.trans {C C' C'':Nat→Nat→Prop} {w w' w'':World} {bo:Nat} {h h' h'':Value} (a:ChR C C' w w' bo h h') (b:ChR C' C'' w' w'' bo h' h'') (hb:bo<w.heap.size) (hnC:∀ i,¬ C' bo i) (hnh:∀ q,h'.ownBlock=some q→∀ i,¬ C' q i):ChR C C'' w w'' bo h h'':=by
 refine ⟨b.os.trans a.os,b.tape.trans a.tape,b.output.trans a.output,Nat.le_trans a.size b.size,fun k hk h1 h2=>?_,fun q hq=>?_,fun q i hc=>b.cc q i (a.cc q i hc),b.cs,fun q i hc hq=>a.lc q i (b.lc q i hc (Nat.lt_of_lt_of_le hq a.size)) hq,fun q i hc hz=>?_⟩
 ·rw [b.block k (Nat.lt_of_lt_of_le hk a.size) h1 (fun e=>?_),a.block k hk h1 h2]
  rcases a.own k e with h3 | h3
  ·exact h2 h3
  ·omega
 ·rcases b.own q hq with h3 | h3
  ·exact a.own q h3
  ·exact .inr (Nat.le_trans a.size h3)
 ·by_cases e:q<w'.heap.size
  ·have h5:=b.lc q i hc e
   have h6:=a.uf q i h5 hz
   rw [World.frozen?_of_block (w:=w') (b.block q e (fun e2=>hnC i (e2 ▸ h5)) (fun e2=>hnh q e2 i h5))]
   exact h6
  ·exact b.uf q i hc (by omega)
theorem ChR.stay {C C':Nat→Nat→Prop} {w w':World} {bo:Nat} {h h':Value} (a:ChR C C' w w' bo h h') (hc:∀ b i,C b i→b<w.heap.size) (hnC:∀ i,¬ C bo i) (hnh:∀ q,h.ownBlock=some q→∀ i,¬ C q i):Stay C C' w w':=fun b i hcb =>
 ⟨a.cc b i hcb,World.cell?_of_block (w:=w) (a.block b (hc b i hcb) (fun e=>hnC i (e ▸ hcb)) (fun e=>hnh b e i hcb))⟩
theorem OutW.own {C:Nat→Nat→Prop} {w:World} {bo:Nat} {hdr:Value} {outs:List (List RatD)} (h:OutW C w bo hdr outs):∀ q,hdr.ownBlock=some q→q ≠ bo∧q<w.heap.size∧∀ i,¬ C q i:=by
 obtain ⟨a,m,c,vs,rfl,h1,h2,h3⟩:=h.buf
 intro q hq
 rcases h1.1.2 with ⟨e,_⟩ | ⟨g,cap,cur,e,_,hg,_⟩
 ·rw [e] at hq;cases hq
 ·simp only [Value.slice.injEq] at e
  obtain ⟨rfl,_,_⟩:=e
  simp only [Value.ownBlock,Option.some.injEq] at hq
  subst hq
  exact ⟨(h3 _ rfl).1,(Array.getElem?_eq_some_iff.1 hg).1,(h3 _ rfl).2⟩
section
variable (A:List (List RatD)) (B Cc:List RatD) (rows:List (List RatD)) (right:List RatD) (sg:Int)
end
end Go.Proofs.YteiaofkgbdlpoaaDoor
namespace Go.Proofs.YteiaofkgbdlpoaaDoor
set_option linter.unusedSimpArgs false
set_option linter.unusedVariables false
attribute [local go_sem ↓] reduceIte
attribute [local go_sem] Nat.reduceEqDiff Nat.reduceLT Nat.reduceAdd Nat.reduceLeDiff Nat.reduceMul Nat.reduceBEq Nat.reduceSub reduceCtorEq Int.reduceLE Int.reduceNeg Int.reduceLT
open Go.RowKit
structure LeafX (X:Cx) (C:Nat→Nat→Prop) (w:World) (bo:Nat) (hdr:Value) (m:Nat):Prop where
 w0:X.w0=w
 L:∀ b,X.L b↔b=bo
 C0:∀ b i,X.C0 b i↔C b i∨(hdr.ownBlock=some b∧i<m)
 A:X.A 0=bo
section
variable {X:Cx} {C:Nat→Nat→Prop} {w:World} {bo:Nat} {hdr:Value} {outs:List (List RatD)}
end
section
variable {P:Program} {ops:Array Oper} {Q:Exit→Act→World→Prop}
end
structure RecX (X:Cx) (C:Nat→Nat→Prop) (w:World):Prop where
 N:X.N=90
 w0:X.w0=w
 L:∀ b,¬ X.L b
 C0:∀ b i,X.C0 b i↔C b i
section
variable {C:Nat→Nat→Prop} {w:World} {bo:Nat} {hdr:Value} {outs:List (List RatD)}
end
section
variable (A:List (List RatD)) (B Cc:List RatD) (rows:List (List RatD)) (right:List RatD) (sg:Int)
end
end Go.Proofs.YteiaofkgbdlpoaaDoor
namespace Go.Proofs.YteiaofkgbdlpoaaDoor
set_option linter.unusedSimpArgs false
set_option linter.unusedVariables false
attribute [local go_sem ↓] reduceIte
attribute [local go_sem] Nat.reduceEqDiff Nat.reduceLT Nat.reduceAdd Nat.reduceLeDiff Nat.reduceMul Nat.reduceBEq Nat.reduceSub reduceCtorEq Int.reduceLE Int.reduceNeg Int.reduceLT
open Go.RowKit
section
variable {A:List (List RatD)} {B Cc:List RatD} {rows:List (List RatD)} {right:List RatD} {sg:Int} {n:Nat}
end
end Go.Proofs.YteiaofkgbdlpoaaDoor
namespace Go.Proofs.YteiaofkgbdlpoaaDoor
set_option linter.unusedSimpArgs false
set_option linter.unusedVariables false
attribute [local go_sem ↓] reduceIte
attribute [local go_sem] Nat.reduceEqDiff Nat.reduceLT Nat.reduceAdd Nat.reduceLeDiff Nat.reduceMul Nat.reduceBEq Nat.reduceSub reduceCtorEq Int.reduceLE Int.reduceNeg Int.reduceLT
open Go.RowKit
section
variable {A:List (List RatD)} {B Cc:List RatD} {rows:List (List RatD)} {right:List RatD} {sg:Int} {n:Nat}
end
theorem implBitA (b:Bool):AFn 53 [.d (.bool b)] [] (fun r os=>r=.d (.int (if b=true then 1 else 0))∧os=[]):=by
 refine afn_of (rv:=[.tmp 2]) tyT_ok Tryd.func53 rfl (by decide +kernel) Tryd.ntmps53 rfl (by simp) ?_
 cases b with
 | false =>
  repeat' (first | refine sq ?_ | refine stp ?_ | refine blk_o (by decide) ?_ | (apply cb;(focus (simp (disch:=(first | omega | (simp;omega))) only [go_sem,w64];try exact rfl));refine cok ?_) | (refine rgT ?_;intro K hK) | (refine dA ?_;intro K hK) | (with_reducible refine hK _ ?_;clear hK K) | (refine stq ?_;simp (disch:=(first | omega | (simp;omega))) only [go_sem,w64]) | refine as1 ?_ | fail)
  (refine endA (r:=.d (.int 0)) ?_)
  exact ⟨rfl,rfl⟩
 | true =>
  repeat' (first | refine sq ?_ | refine stp ?_ | refine blk_o (by decide) ?_ | (apply cb;(focus (simp (disch:=(first | omega | (simp;omega))) only [go_sem,w64];try exact rfl));refine cok ?_) | (refine rgT ?_;intro K hK) | (refine dA ?_;intro K hK) | (with_reducible refine hK _ ?_;clear hK K) | (refine stq ?_;simp (disch:=(first | omega | (simp;omega))) only [go_sem,w64]) | refine as1 ?_ | fail)
  (refine endA (r:=.d (.int 1)) ?_)
  exact ⟨rfl,rfl⟩
end Go.Proofs.YteiaofkgbdlpoaaDoor
namespace Go.Proofs.YteiaofkgbdlpoaaDoor
set_option linter.unusedSimpArgs false
set_option linter.unusedVariables false
open Go.RowKit
structure SubX (X X':Cx) (G:Gh) (w:World):Prop where
 w0:X'.w0=w
 L:∀ b,¬ X'.L b
 C0:∀ b i,X'.C0 b i↔G.C b i
 N:X'.N=X.N
end Go.Proofs.YteiaofkgbdlpoaaDoor
namespace Go.Proofs.YteiaofkgbdlpoaaDoor
set_option linter.unusedSimpArgs false
set_option linter.unusedVariables false
attribute [local go_sem ↓] reduceIte
attribute [local go_sem] Nat.reduceEqDiff Nat.reduceLT Nat.reduceAdd Nat.reduceLeDiff Nat.reduceMul Nat.reduceBEq Nat.reduceSub reduceCtorEq Int.reduceLE Int.reduceNeg Int.reduceLT
open Go.RowKit
end Go.Proofs.YteiaofkgbdlpoaaDoor
namespace Go.Proofs.YteiaofkgbdlpoaaDoor
set_option linter.unusedSimpArgs false
set_option linter.unusedVariables false
attribute [local go_sem ↓] reduceIte
attribute [local go_sem] Nat.reduceEqDiff Nat.reduceLT Nat.reduceAdd Nat.reduceLeDiff Nat.reduceMul Nat.reduceBEq Nat.reduceSub reduceCtorEq Int.reduceLE Int.reduceNeg Int.reduceLT
open Go.RowKit
section
variable (A:List (List RatD)) (B Cc:List RatD) (rows:List (List RatD)) (right:List RatD) (sg:Int)
end
end Go.Proofs.YteiaofkgbdlpoaaDoor
namespace Go.Proofs.YteiaofkgbdlpoaaDoor
set_option linter.unusedSimpArgs false
set_option linter.unusedVariables false
attribute [local go_sem ↓] reduceIte
attribute [local go_sem] Nat.reduceEqDiff Nat.reduceLT Nat.reduceAdd Nat.reduceLeDiff Nat.reduceMul Nat.reduceBEq Nat.reduceSub reduceCtorEq Int.reduceLE Int.reduceNeg Int.reduceLT
open Go.RowKit
end Go.Proofs.YteiaofkgbdlpoaaDoor
namespace Go.Proofs.YteiaofkgbdlpoaaDoor
set_option linter.unusedSimpArgs false
set_option linter.unusedVariables false
attribute [local go_sem ↓] reduceIte
attribute [local go_sem] Nat.reduceEqDiff Nat.reduceLT Nat.reduceAdd Nat.reduceLeDiff Nat.reduceMul Nat.reduceBEq Nat.reduceSub reduceCtorEq Int.reduceLE Int.reduceNeg Int.reduceLT
open Go.RowKit
structure BestS where
 pt:List RatD
 val:RatD
 found:Bool
def bestT (C:List RatD) (sg:Int) (st:BestS) (x:List RatD):BestS:=match dotF C x with
 | none=>st
 | some v=>if st.found=false∨sg*cmpQ v st.val<0 then ⟨x,v,true⟩ else st
def best0:BestS:=⟨[],⟨0,0⟩,false⟩
def bestF (C:List RatD) (V:List (List RatD)) (sg:Int):BestS:=V.foldl (bestT C sg) best0
def mnF (A:List (List RatD)) (B Cc:List RatD):BestS:=if lpV A B Cc=true∧posL Cc=true then bestF Cc (vertF A B Cc 1) 1 else best0
def bndC (A:List (List RatD)) (k:Nat):Bool:=(List.range A.length).any fun i=>posL (mx A i) && decide (0<(qx (mx A i) k).num)
def bndL (A:List (List RatD)) (n:Nat):Bool:=(List.range n).all (bndC A)
def mxF (A:List (List RatD)) (B Cc:List RatD):BestS:=if lpV A B Cc=true∧bndL A Cc.length=true then bestF Cc (vertF A B Cc (-1)) (-1) else best0
section
variable (A:List (List RatD)) (B Cc:List RatD) (hA:A.length≤1048576) (hr:∀ i,i<A.length→(mx A i).length≤1048576) (hB:B.length≤1048576) (hC:Cc.length≤1048576)
include hA hr hB hC
end
section
variable (A:List (List RatD)) (B Cc:List RatD) (hA:A.length≤1048576) (hr:∀ i,i<A.length→(mx A i).length≤1048576) (hB:B.length≤1048576) (hC:Cc.length≤1048576)
include hA hr hB hC
end
end Go.Proofs.YteiaofkgbdlpoaaDoor
namespace Go.Proofs.YteiaofkgbdlpoaaDoor
set_option linter.unusedSimpArgs false
set_option linter.unusedVariables false
open Go.RowKit
def cellsC (lo:Nat) (w:World):Nat→Nat→Prop:=fun b i=>lo≤b∧b<w.heap.size∧w.cell? ⟨b,i,none⟩ ≠ none
theorem no_tag {lo:Nat} {w:World} {b:Nat}:¬ Tag (cellsC lo w) b:=by
 rintro ⟨N,h⟩
 have h0:=(h (2*N) ⟨by omega,by omega⟩).2.1
 obtain ⟨o,ho⟩:∃ o,w.heap[b]? = some o:=⟨_,Array.getElem?_eq_getElem h0⟩
 cases o with
 | cells arr e fz =>
  have h1:=(h (2*(N+arr.size)) ⟨by omega,by omega⟩).2.2
  simp only [World.cell?,ho] at h1
  simp at h1
  omega
 | _ =>
  have h1:=(h (2*N) ⟨by omega,by omega⟩).2.2
  simp [World.cell?,ho] at h1
def Out (C0:Nat→Nat→Prop) (X:AV) (w:World) (e:Ending) (w':World):Prop :=
 ∃ v G',e=.returned v∧CV G' w' X v∧Below w.heap.size w w'∧(∀ b i,G'.C b i→b<w'.heap.size)∧(∀ b i,G'.C b i→b<w.heap.size→C0 b i)∧(∀ b i,G'.C b i→w.heap.size≤b→w'.frozen? ⟨b,i,none⟩=false)
theorem afn_calls {f:FuncId} {args:List AV} {X:AV} (h:AFn f args [] (fun r os=>r=X∧os=[])) {w:World} {C0:Nat→Nat→Prop} (hC0:∀ b i,C0 b i→b<w.heap.size) {vs:List Value} (hv:∀ G:Gh,G.C=C0→CVs G w args vs):Calls Tryd.prog f vs.toArray w (Out C0 X w):=by
 refine (h.2 w ⟨C0,fun _=>.slice none 0 0,fun _=>0,fun _=>0,fun _=>0⟩ vs (hv _ rfl) hC0 (fun i l hl=>by simp at hl) (fun i j hi=>absurd hi (Nat.not_lt_zero _))).mono ?_
 rintro e w' ⟨v,r,os,G',rfl,hp⟩
 obtain ⟨rfl,rfl⟩:=hp.post
 exact ⟨v,G',rfl,hp.res,⟨hp.fr.os,hp.fr.tape,hp.fr.output,hp.fr.size,fun k hk=>hp.fr.block k hk (fun ⟨i,hi,_⟩=>absurd hi (Nat.not_lt_zero _))⟩,hp.cs,hp.lc,hp.uf⟩
end Go.Proofs.YteiaofkgbdlpoaaDoor
namespace Go.Proofs.YteiaofkgbdlpoaaDoor
set_option linter.unusedSimpArgs false
set_option linter.unusedVariables false
open Go.RowKit
abbrev ratV1 (n d:Int):Value:=.agg #[.int .i64 n,.int .i64 d]
set_option maxHeartbeats 800000 in
theorem eqRat1 (n d:Int) (w:World):Calls Tryd.prog 18 #[ratV1 n d,ratV1 n d] w (Leaves w (.bool true)):=by
 have h1:((n:Int) != n)=false:=by simp
 have h2:((d:Int) != d)=false:=by simp
 go_enter Tryd.func18,Tryd.ntmps18
 go_wp2
 go_ret
 exact ⟨rfl,(by repeat (first | with_reducible assumption | with_reducible exact Below.refl _ _ | with_reducible refine below_drewN ?_ _ | with_reducible refine below_drew1 ?_ | with_reducible refine Below.al ?_ (by first | with_reducible exact Nat.le_refl _ | omega | (simp;done) | (simp;omega) | exact Nat.le_refl _) _ | with_reducible refine Below.setCell ?_ (by first | with_reducible exact Nat.le_refl _ | omega | (simp;done) | (simp;omega) | exact Nat.le_refl _) _ | assumption | exact Below.refl _ _ | refine below_drewN ?_ _ | refine below_drew1 ?_ | refine Below.al ?_ (by first | with_reducible exact Nat.le_refl _ | omega | (simp;done) | (simp;omega) | exact Nat.le_refl _) _ | refine Below.setCell ?_ (by first | with_reducible exact Nat.le_refl _ | omega | (simp;done) | (simp;omega) | exact Nat.le_refl _) _))⟩
set_option maxHeartbeats 1600000 in
theorem eqRats {fz fz':Bool} {lo hi lo' hi':Nat} (a a':Option Addr) (n c n' c':Nat) (xs:List RatD) (w:World) (hI:RatsA fz lo hi w a n c xs) (hh:hi≤w.heap.size) (hJ:RatsA fz' lo' hi' w a' n' c' xs) (hh':hi'≤w.heap.size) :
 Calls Tryd.prog 17 #[.slice a n c,.slice a' n' c'] w (Leaves w (.bool true)):=by
 have hl:=hI.len
 have hl':=hJ.len
 have hs:=hI.small
 obtain rfl:n=n':=by omega
 clear hl hl'
 have hb:((n:Int) != (n:Int))=false:=by simp
 go_enter Tryd.func17,Tryd.ntmps17
 go_wp2_with fail
 go_loopw [5] (fun i wr=>∃ k:Nat,i=.int .i64 k∧k≤n∧Hid (Below w.heap.size w wr)) (fun i _=>n - (intOf i).toNat)
 case atStart=>exact ⟨0,rfl,by omega,hid (Below.refl _ _)⟩
 case round =>
  obtain ⟨k,rfl,hk,HB⟩:=hrel
  by_cases hlt:k<n
  ·have hzr:=HB.out.size
   have hIr:=beRats hI HB.out hh
   have hJr:=beRats hJ HB.out hh'
   obtain ⟨b,off,rfl⟩:=ratsSome hIr (by omega)
   obtain ⟨g1,g2,_,_,d0,d1,_⟩:=ratsAt hIr hlt
   obtain ⟨b',off',rfl⟩:=ratsSome hJr (by omega)
   obtain ⟨g1',g2',_,_,d0',d1',_⟩:=ratsAt hJr hlt
   have e0:∀ x:Later wr.heap.size wr,x.w.cell? ⟨b,off+k*2,none⟩=some (.int .i64 (qx xs k).num):=fun x=>x.cell d0 (by omega)
   have e1:∀ x:Later wr.heap.size wr,x.w.cell? ⟨b,off+k*2+1,none⟩=some (.int .i64 (qx xs k).den):=fun x=>x.cell d1 (by omega)
   have e0':∀ x:Later wr.heap.size wr,x.w.cell? ⟨b',off'+k*2,none⟩=some (.int .i64 (qx xs k).num):=fun x=>x.cell d0' (by omega)
   have e1':∀ x:Later wr.heap.size wr,x.w.cell? ⟨b',off'+k*2+1,none⟩=some (.int .i64 (qx xs k).den):=fun x=>x.cell d1' (by omega)
   have HC:=hid (fun x:Later wr.heap.size wr=>later_of x (Nat.le_refl _) (eqRat1 (qx xs k).num (qx xs k).den x.w))
   have HI:=hid (And.intro (And.intro hI hIr) (And.intro (And.intro hJ hJr) (And.intro (And.intro d0 d1) (And.intro d0' d1'))));clear hI hIr hJ hJr d0 d1 d0' d1'
   go_wp2_with fail
   refine wp_region_later (B:=wr.heap.size) (w0:=wr) (by kernel_rfl) (by kernel_rfl) (Below.refl _ _) ?_
   repeat (any_goals (first | go_big_quiet_step (((go_at_call 18;exact HC.out _))) | quiet_step (((go_at_call 18;exact HC.out _)))))
   refine wpQuiet_nil ?_
   intro _ hw'
   obtain ⟨nq,hw''⟩:=hw'
   subst hw''
   have HQ:=hid nq.be
   generalize nq.w=wq at *
   have HB2:=hid (Below.calm HB.out HQ.out)
   go_wp2_with fail
   go_roundw
   case rel=>exact ⟨k+1,by go_num,by omega,HB2⟩
   case measure=>simp [intOf];omega
  ·go_wp2_with fail
   go_ret
   exact ⟨rfl,HB.out⟩
set_option maxHeartbeats 1600000 in
theorem eqMat {fz fz':Bool} {lo hi lo' hi':Nat} (a a':Option Addr) (n c n' c':Nat) (xss:List (List RatD)) (w:World) (hI:MatA fz lo hi w a n c xss) (hh:hi≤w.heap.size) (hJ:MatA fz' lo' hi' w a' n' c' xss) (hh':hi'≤w.heap.size) :
 Calls Tryd.prog 32 #[.slice a n c,.slice a' n' c'] w (Leaves w (.bool true)):=by
 have hl:=hI.len
 have hl':=hJ.len
 have hs:=hI.small
 obtain rfl:n=n':=by omega
 clear hl hl'
 have hb:((n:Int) != (n:Int))=false:=by simp
 go_enter Tryd.func32,Tryd.ntmps32
 go_wp2_with fail
 go_loopw [5] (fun i wr=>∃ k:Nat,i=.int .i64 k∧k≤n∧Hid (Below w.heap.size w wr)) (fun i _=>n - (intOf i).toNat)
 case atStart=>exact ⟨0,rfl,by omega,hid (Below.refl _ _)⟩
 case round =>
  obtain ⟨k,rfl,hk,HB⟩:=hrel
  by_cases hlt:k<n
  ·have hzr:=HB.out.size
   have hIr:=beMat hI HB.out hh
   have hJr:=beMat hJ HB.out hh'
   obtain ⟨b,off,rfl⟩:=matSome hIr (by omega)
   obtain ⟨g1,g2,ra,rn,rc,d0,hr,_⟩:=matAt hIr hlt
   obtain ⟨b',off',rfl⟩:=matSome hJr (by omega)
   obtain ⟨g1',g2',ra',rn',rc',d0',hr',_⟩:=matAt hJr hlt
   have e0:∀ x:Later wr.heap.size wr,x.w.cell? ⟨b,off+k,none⟩=some (.slice ra rn rc):=fun x=>x.cell d0 (by omega)
   have e0':∀ x:Later wr.heap.size wr,x.w.cell? ⟨b',off'+k,none⟩=some (.slice ra' rn' rc'):=fun x=>x.cell d0' (by omega)
   have HC:=hid (fun x:Later wr.heap.size wr=>later_of x (Nat.le_refl _) (eqRats ra ra' rn rc rn' rc' (mx xss k) x.w (beRats hr x.be (by omega)) (by have:=x.size;omega) (beRats hr' x.be (by omega)) (by have:=x.size;omega)))
   have HI:=hid (And.intro (And.intro hI hIr) (And.intro (And.intro hJ hJr) (And.intro (And.intro d0 hr) (And.intro d0' hr'))));clear hI hIr hJ hJr d0 hr d0' hr'
   go_wp2_with fail
   refine wp_region_later (B:=wr.heap.size) (w0:=wr) (by kernel_rfl) (by kernel_rfl) (Below.refl _ _) ?_
   repeat (any_goals (first | go_big_quiet_step (((go_at_call 17;exact HC.out _))) | quiet_step (((go_at_call 17;exact HC.out _)))))
   refine wpQuiet_nil ?_
   intro _ hw'
   obtain ⟨nq,hw''⟩:=hw'
   subst hw''
   have HQ:=hid nq.be
   generalize nq.w=wq at *
   have HB2:=hid (Below.calm HB.out HQ.out)
   go_wp2_with fail
   go_roundw
   case rel=>exact ⟨k+1,by go_num,by omega,HB2⟩
   case measure=>simp [intOf];omega
  ·go_wp2_with fail
   go_ret
   exact ⟨rfl,HB.out⟩
def RatsTo (g:Nat) (w:World) (n:Nat) (xs:List RatD) (k:Nat):Prop :=
 ∃ vs,w.ownsRow g 43 2 (.slice (some ⟨g,0,none⟩) n n) n vs∧∀ i,i<k→vs[i*2]? = some (.int .i64 (qx xs i).num)∧vs[i*2+1]? = some (.int .i64 (qx xs i).den)
theorem RatsTo.put {g:Nat} {w w1:World} {n:Nat} {xs:List RatD} {k:Nat} (h:RatsTo g w n xs k) (hk:k<n) (hg:g<w.heap.size) (hb:Below w.heap.size w w1) :
 RatsTo g ((w1.setCell ⟨g,k*2,none⟩ (.int .i64 (qx xs k).num)).setCell ⟨g,k*2+1,none⟩ (.int .i64 (qx xs k).den)) n xs (k+1)∧Below g w ((w1.setCell ⟨g,k*2,none⟩ (.int .i64 (qx xs k).num)).setCell ⟨g,k*2+1,none⟩ (.int .i64 (qx xs k).den)) ∧
  (∃ v0,w1.cell? ⟨g,k*2,none⟩=some v0)∧(∃ v0,w1.cell? ⟨g,k*2+1,none⟩=some v0)∧w1.frozen? ⟨g,k*2,none⟩=false∧w1.frozen? ⟨g,k*2+1,none⟩=false:=by
 obtain ⟨vs,ho,hv⟩:=h
 have hlen:vs.length=n*2:=ho.1
 have ho1:w1.ownsRow g 43 2 (.slice (some ⟨g,0,none⟩) n n) n vs:=ho.kept (row:=none) ⟨hb.os,hb.tape,hb.output,hb.size,fun k hk _=>hb.block k hk⟩ (.inr (by simp [Value.ownBlock]))
 obtain ⟨hs1,hs2⟩:=ho1.stored (k*2) (.int .i64 (qx xs k).num)
 obtain ⟨ht1,ht2⟩:=hs1.stored (k*2+1) (.int .i64 (qx xs k).den)
 have hbs:=hb.size
 refine ⟨⟨_,ht1,fun i hi=>?_⟩,?_,?_,?_,ho1.frozenAt _,ho1.frozenAt _⟩
 ·by_cases e:i=k
  ·subst e
   refine ⟨?_,?_⟩
   ·rw [List.getElem?_set_ne (by omega),List.getElem?_set_self (by omega)]
   ·rw [List.getElem?_set_self (by rw [List.length_set];omega)]
  ·obtain ⟨g1,g2⟩:=hv i (by omega)
   refine ⟨?_,?_⟩
   ·rw [List.getElem?_set_ne (by omega),List.getElem?_set_ne (by omega)];exact g1
   ·rw [List.getElem?_set_ne (by omega),List.getElem?_set_ne (by omega)];exact g2
 ·exact Below.setCell (Below.setCell (hb.mono (by omega)) (by dsimp only;omega) _) (by dsimp only;omega) _
 ·have:=ho1.cells (g:=g) rfl (k*2) (vs[k*2]'(by omega)) (by simp)
  rw [Addr.add_lit] at this;exact ⟨_,by simpa using this⟩
 ·have:=ho1.cells (g:=g) rfl (k*2+1) (vs[k*2+1]'(by omega)) (by simp)
  rw [Addr.add_lit] at this;exact ⟨_,by simpa using this⟩
def MatTo (g:Nat) (w:World) (n:Nat) (xss:List (List RatD)) (k:Nat):Prop :=
 ∃ vs,w.ownsRow g 28 1 (.slice (some ⟨g,0,none⟩) n n) n vs∧∀ i,i<k→∃ ra rn rc,vs[i]? = some (.slice ra rn rc)∧RatsA true (g+1) w.heap.size w ra rn rc (mx xss i)
theorem MatTo.put {g:Nat} {w w1:World} {n:Nat} {xss:List (List RatD)} {k:Nat} (h:MatTo g w n xss k) (hk:k<n) (hg:g<w.heap.size) (hb:Below w.heap.size w w1) {ra:Option Addr} {rn rc:Nat}
 (hr:RatsA true w.heap.size w1.heap.size w1 ra rn rc (mx xss k)):MatTo g (w1.setCell ⟨g,k,none⟩ (.slice ra rn rc)) n xss (k+1)∧Below g w (w1.setCell ⟨g,k,none⟩ (.slice ra rn rc)) ∧
  (∃ v0,w1.cell? ⟨g,k,none⟩=some v0)∧w1.frozen? ⟨g,k,none⟩=false:=by
 obtain ⟨vs,ho,hv⟩:=h
 have hlen:vs.length=n:=by have:=ho.1;omega
 have ho1:w1.ownsRow g 28 1 (.slice (some ⟨g,0,none⟩) n n) n vs:=ho.kept (row:=none) ⟨hb.os,hb.tape,hb.output,hb.size,fun k hk _=>hb.block k hk⟩ (.inr (by simp [Value.ownBlock]))
 obtain ⟨hs1,hs2⟩:=ho1.stored k (.slice ra rn rc)
 have hsz:(w1.setCell ⟨g,k,none⟩ (.slice ra rn rc)).heap.size=w1.heap.size:=by simp [World.setCell]
 have hbs:=hb.size
 have hset:Keeps (g+1) w1.heap.size w1 (w1.setCell ⟨g,k,none⟩ (.slice ra rn rc)):=fun j h1 h2=>hs2.block j h2 (by intro e;cases e;omega)
 refine ⟨⟨_,hs1,fun i hi=>?_⟩,(hb.mono (by omega)).grown hs2 (by omega) (fun j hj=>by cases hj;exact Nat.le_refl _),?_,ho1.frozenAt k⟩
 ·by_cases e:i=k
  ·subst e
   exact ⟨ra,rn,rc,by simp [hlen,hk],by rw [hsz];exact kpRats (wdRats hr (by omega)) hset⟩
  ·obtain ⟨ra',rn',rc',g1,g2⟩:=hv i (by omega)
   exact ⟨ra',rn',rc',by rw [List.getElem?_set_ne (by omega)];exact g1,by
    rw [hsz];exact kpRats (hgRats (kpRats g2 (Keeps.of_below hb (Nat.le_refl _))) hbs) hset⟩
 ·have:=ho1.cells (g:=g) rfl k vs[k] (by simp [hlen,hk])
  rw [Addr.add_lit] at this;exact ⟨_,by simpa using this⟩
end Go.Proofs.YteiaofkgbdlpoaaDoor
