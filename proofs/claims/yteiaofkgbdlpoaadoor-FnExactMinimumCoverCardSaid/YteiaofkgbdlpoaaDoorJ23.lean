/- Lemmas for the proof of FnExactMaximumPacking, part 23 of 27: no condition of their own. -/
import Derived.Test.YteiaofkgbdlpoaaDoorJ22
import Derived.Deep.Slices
import Derived.Test.YteiaofkgbdlpoaaDoorJ21
import Derived.Test.YteiaofkgbdlpoaaDoorJ1
import Derived.Test.YteiaofkgbdlpoaaDoorJ8
import Derived.Test.YteiaofkgbdlpoaaDoorJ2
import Derived.Deep.CutBlock
import Derived.Deep.DeepCutAuto
namespace Go.Proofs.YteiaofkgbdlpoaaDoor
set_option linter.unusedSimpArgs false
set_option linter.unusedVariables false
open Go.RowKit
def mkRats (k:Int) (n:Nat):List RatD:=(List.range n).map fun (i:Nat)=>⟨k+2*(i:Int),k+2*(i:Int)+1⟩
theorem mkRats_len (k:Int) (n:Nat):(mkRats k n).length=n:=by simp [mkRats]
theorem mkRats_qx (k:Int) {n i:Nat} (h:i<n):qx (mkRats k n) i=⟨k+2*(i:Int),k+2*(i:Int)+1⟩:=by simp [qx,mkRats,h]
theorem RatsA.marked {lo hi lo' hi':Nat} {w w':World} {a:Option Addr} {n c:Nat} {xs:List RatD} (h:RatsA true lo hi w a n c xs) (hm:Marked lo' hi' w w'):∃ ys,RatsA true lo hi w' a n c ys:=by
 by_cases hn:0<n
 ·obtain ⟨b,off,rfl⟩:=ratsSome h hn
  have h0:=ratsAt h hn
  have each:∀ i,i<n→∃ y:RatD,I64 y.num∧I64 y.den∧w'.cell? ⟨b,off+i*2,none⟩=some (.int .i64 y.num)∧w'.cell? ⟨b,off+i*2+1,none⟩=some (.int .i64 y.den):=by
   intro i hi
   obtain ⟨_,_,g1,g2,g3,g4,_⟩:=ratsAt h hi
   obtain ⟨v1,e1,q1⟩:=hm.cell _ _ g3
   obtain ⟨v2,e2,q2⟩:=hm.cell _ _ g4
   have f1:∃ x,v1=.int .i64 x∧I64 x:=by
    rcases q1 with rfl | ⟨_,y,_,rfl,hy⟩
    ·exact ⟨_,rfl,g1⟩
    ·exact ⟨_,rfl,hy⟩
   have f2:∃ x,v2=.int .i64 x∧I64 x:=by
    rcases q2 with rfl | ⟨_,y,_,rfl,hy⟩
    ·exact ⟨_,rfl,g2⟩
    ·exact ⟨_,rfl,hy⟩
   obtain ⟨x1,rfl,y1⟩:=f1
   obtain ⟨x2,rfl,y2⟩:=f2
   exact ⟨⟨x1,x2⟩,y1,y2,e1,e2⟩
  haveI:Inhabited RatD:=⟨⟨0,0⟩⟩
  obtain ⟨y,hy⟩:=Deep.choose_lt each
  refine ⟨(List.range n).map y,ratsMk (by simp) h.2.1 h.2.2.1 h0.1 h0.2.1 fun i hi=>?_⟩
  have hq:qx ((List.range n).map y) i=y i:=by simp [qx,hi]
  obtain ⟨_,_,_,_,g3,g4,g5⟩:=ratsAt h hi
  obtain ⟨e1,e2,e3,e4⟩:=hy i hi
  rw [hq]
  exact ⟨e1,e2,e3,e4,fun hf=>by rw [hm.frz,hm.frz];exact g5 hf⟩
 ·exact ⟨xs,h.1,h.2.1,h.2.2.1,fun h=>absurd h hn,h.2.2.2.2⟩
def GivesMarkR (lo hi:Nat) (w:World) (r:Int) (a:Option Addr) (n c:Nat) (ys:List RatD) (e:Ending) (w':World):Prop:=e=.returned (.int .i64 r)∧Marked lo hi w w'∧RatsA true lo hi w' a n c ys
set_option maxHeartbeats 1600000 in
theorem markRats {lo hi:Nat} (a:Option Addr) (n c:Nat) (xs:List RatD) (k:Int) (w:World) (hI:RatsA true lo hi w a n c xs) (h0:0≤k) (h1:k≤4194304) (hn:n≤1048576) :
 Calls Tryd.prog 19 #[.slice a n c,.int .i64 k] w (GivesMarkR lo hi w (k+2*n) a n c (mkRats k n)):=by
 have hs:=hI.small
 by_cases hn0:0<n
 ·obtain ⟨b,off,rfl⟩:=ratsSome hI hn0
  have hlo:=(ratsAt hI hn0).1
  have hhi:=(ratsAt hI hn0).2.1
  have HI:=hid hI;clear hI
  go_enter Tryd.func19,Tryd.ntmps19
  go_wp2
  go_loopw [1,5] (fun q i wr=>∃ (j:Nat) (t:Int),i=.int .i64 j∧q=.int .i64 t∧t=k+2*j∧j≤n∧Hid (Marked lo hi w wr∧∀ i,i<j→wr.cell? ⟨b,off+i*2,none⟩=some (.int .i64 (k+2*i))∧wr.cell? ⟨b,off+i*2+1,none⟩=some (.int .i64 (k+2*i+1)))) (fun _ i _=>n - (intOf i).toNat)
  case atStart=>exact ⟨0,_,rfl,rfl,by omega,by omega,hid ⟨Marked.refl _ _ _,fun i hi=>by omega⟩⟩
  case round =>
   obtain ⟨j,t,rfl,rfl,ht,hj,HM⟩:=hrel
   have ht1:0≤t:=by omega
   have ht2:t≤7340032:=by omega
   have HT:=hid ht;clear ht
   by_cases hlt:j<n
   ·obtain ⟨_,_,g1,g2,g3,g4,g5⟩:=ratsAt HI.out hlt
    obtain ⟨v0,e0,q0⟩:=HM.out.1.cell _ _ g3
    obtain ⟨v1,e1,q1⟩:=HM.out.1.cell _ _ g4
    obtain ⟨y0,rfl⟩:∃ y,v0=.int .i64 y:=by
     rcases q0 with rfl | ⟨_,y,_,rfl,_⟩ <;> exact ⟨_,rfl⟩
    obtain ⟨y1,rfl⟩:∃ y,v1=.int .i64 y:=by
     rcases q1 with rfl | ⟨_,y,_,rfl,_⟩ <;> exact ⟨_,rfl⟩
    have hf0:wr.frozen? ⟨b,off+j*2,none⟩=false:=by rw [HM.out.1.frz];exact (g5 rfl).1
    have hf1:wr.frozen? ⟨b,off+j*2+1,none⟩=false:=by rw [HM.out.1.frz];exact (g5 rfl).2
    have hne:(⟨b,off+j*2,none⟩:Addr) ≠ ⟨b,off+j*2+1,none⟩:=by intro h;simp only [Addr.mk.injEq] at h;omega
    have hm1:=marked_set (lo:=lo) (hi:=hi) (x':=t) e0 hlo hhi (by unfold I64;omega)
    have e1':(wr.setCell ⟨b,off+j*2,none⟩ (.int .i64 t)).cell? ⟨b,off+j*2+1,none⟩=some (.int .i64 y1):=by rw [cset_other hne];exact e1
    have hm2:=marked_set (lo:=lo) (hi:=hi) (x':=t+1) e1' hlo hhi (by unfold I64;omega)
    have HMS:=hid (HM.out.1.trans (hm1.trans hm2))
    have HE:=hid (And.intro e0 (And.intro e1' hne))
    clear hm1 hm2 q0 q1 g1 g2 g3 g4 g5 hne
    go_wp2
    go_roundw
    case rel=>exact ⟨j+1,_,by go_num,rfl,by have:=HT.out;omega,by omega,hid ⟨HMS.out,fun i hi=>by
     by_cases e:i=j
     ·subst e
      refine ⟨?_,?_⟩
      ·rw [cset_other HE.out.2.2.symm,cset_same HE.out.1,HT.out]
      ·rw [cset_same HE.out.2.1,HT.out]
     ·obtain ⟨f1,f2⟩:=HM.out.2 i (by omega)
      refine ⟨?_,?_⟩
      ·rw [cset_other (by intro h;simp only [Addr.mk.injEq] at h;omega),cset_other (by intro h;simp only [Addr.mk.injEq] at h;omega)];exact f1
      ·rw [cset_other (by intro h;simp only [Addr.mk.injEq] at h;omega),cset_other (by intro h;simp only [Addr.mk.injEq] at h;omega)];exact f2⟩⟩
    case measure=>simp [intOf];omega
   ·go_wp2
    go_ret
    obtain rfl:j=n:=by omega
    refine ⟨ret_int (by have:=HT.out;omega),HM.out.1,ratsMk (mkRats_len _ _) HI.out.2.1 HI.out.2.2.1 hlo hhi fun i hi=>?_⟩
    obtain ⟨_,_,_,_,_,_,g5⟩:=ratsAt HI.out hi
    rw [mkRats_qx k hi]
    obtain ⟨f1,f2⟩:=HM.out.2 i hi
    exact ⟨by unfold I64;dsimp only;omega,by unfold I64;dsimp only;omega,f1,f2,fun hf=>by rw [HM.out.1.frz,HM.out.1.frz];exact g5 hf⟩
 ·have hn0':n≤0:=by omega
  have HI:=hid hI;clear hI
  go_enter Tryd.func19,Tryd.ntmps19
  go_wp2
  go_loopw [1,5] (fun q i wr=>i=.int .i64 0∧q=.int .i64 k∧wr=w) (fun _ i _=>n - (intOf i).toNat)
  case atStart=>exact ⟨rfl,rfl,rfl⟩
  case round =>
   obtain ⟨rfl,rfl,rfl⟩:=hrel
   go_wp2
   go_ret
   have hx:=HI.out
   obtain rfl:n=0:=by omega
   exact ⟨ret_int (by omega),Marked.refl _ _ _,rfl,hx.2.1,hx.2.2.1,(fun h=>by omega),hx.2.2.2.2⟩
set_option maxHeartbeats 800000 in
theorem heldRats {fz:Bool} {lo hi:Nat} (a:Option Addr) (n c:Nat) (k:Int) (w:World) (hI:RatsA fz lo hi w a n c (mkRats k n)) (h0:0≤k) (h1:k≤4194304) (hn:n≤1048576) :
 Calls Tryd.prog 20 #[.slice a n c,.int .i64 k] w (Gives w (.int .i64 (k+2*n))):=by
 have hs:=hI.small
 have HI:=hid hI
 go_enter Tryd.func20,Tryd.ntmps20
 go_wp2
 go_loopw [1,5] (fun q i wr=>∃ (j:Nat) (t:Int),i=.int .i64 j∧q=.int .i64 t∧t=k+2*j∧j≤n∧∃ m,wr=w.drewN m) (fun _ i _=>n - (intOf i).toNat)
 case atStart=>exact ⟨0,_,rfl,rfl,by omega,by omega,0,rfl⟩
 case round =>
  obtain ⟨j,t,rfl,rfl,ht,hj,m,rfl⟩:=hrel
  have ht1:0≤t:=by omega
  have ht2:t≤7340032:=by omega
  by_cases hlt:j<n
  ·obtain ⟨b,off,rfl⟩:=ratsSome HI.out (by omega)
   obtain ⟨_,_,_,_,d0,d1,_⟩:=ratsAt HI.out hlt
   rw [mkRats_qx k hlt] at d0 d1
   dsimp only at d0 d1
   rw [← ht] at d0 d1
   have HT:=hid ht;clear ht hI
   have hb:(t != t)=false:=by simp
   have hb1:(t+1 != t+1)=false:=by simp
   go_wp2
   go_roundw
   case rel=>exact ⟨j+1,_,by go_num,rfl,by have:=HT.out;omega,by omega,by first | exact ⟨_,rfl⟩ | exact ⟨_,dd⟩⟩
   case measure=>simp [intOf];omega
  ·have HT:=hid ht;clear ht
   go_wp2
   go_ret
   exact ⟨ret_int (by have:=HT.out;omega),by first | exact ⟨_,rfl⟩ | exact ⟨_,dd⟩⟩
def ratsQ:RowP (List RatD):=fun lo hi w a n c xs=>RatsA true lo hi w a n c xs
abbrev MatS:=SepA ratsQ
theorem MatS.mat {lo hi:Nat} {w:World} {a:Option Addr} {n c:Nat} {xss:List (List RatD)} (h:MatS lo hi w a n c xss):MatA true lo hi w a n c xss:=SepA.sl (R:=matR) (fun {lo hi w ra rn rc x} h=>⟨ra,rn,rc,rfl,h⟩) matRep h
end Go.Proofs.YteiaofkgbdlpoaaDoor
namespace Go.Proofs.YteiaofkgbdlpoaaDoor
set_option linter.unusedSimpArgs false
set_option linter.unusedVariables false
open Go.RowKit
end Go.Proofs.YteiaofkgbdlpoaaDoor
namespace Go.Proofs.YteiaofkgbdlpoaaDoor
set_option linter.unusedSimpArgs false
set_option linter.unusedVariables false
open Go.RowKit
section
variable {C:Nat→Nat→Prop} {fz:Bool} {lo hi:Nat} {w:World} {a:Option Addr} {n c:Nat}
theorem cxk_rats:∀ {xs:List RatD} {us:List Value},CXk C w 2 (xs.map ratDV) us→us=flatR xs∧∀ i,i<xs.length→I64 (qx xs i).num∧I64 (qx xs i).den
 | [],us,h=>⟨h,fun i hi=>absurd hi (Nat.not_lt_zero _)⟩
 | x :: xs,us,h=>by
  obtain ⟨u,v,rfl,g1,g2,g3⟩:=h
  obtain ⟨e,i1,i2⟩:=cxs_two.1 g1
  obtain ⟨e2,h2⟩:=cxk_rats g3
  subst e;subst e2
  refine ⟨rfl,fun i hi=>?_⟩
  cases i with
  | zero=>exact ⟨i1,i2⟩
  | succ i=>exact h2 i (by simpa using hi)
theorem ratsMk0 {xs:List RatD} (hl:xs.length=n) (hnc:n≤c) (hcm:c≤maxLen) (ha:a=none→c=0) (hI:∀ i,i<xs.length→I64 (qx xs i).num∧I64 (qx xs i).den)
 (h:0<n→∃ b off,a=some ⟨b,off,none⟩∧lo≤b∧b<hi∧∀ i u,(flatR xs)[i]? = some u→w.cell? ⟨b,off+i,none⟩=some u∧(fz=true→w.frozen? ⟨b,off+i,none⟩=false)):RatsA fz lo hi w a n c xs:=by
 by_cases hn:0<n
 ·obtain ⟨b,off,rfl,h1,h2,h3⟩:=h hn
  refine ratsMk hl hnc hcm h1 h2 fun i hi=>?_
  have f:=flatR_at (xs:=xs) (i:=i) (by omega)
  have g1:=h3 _ _ f.1
  have g2:=h3 _ _ f.2
  exact ⟨(hI i (by omega)).1,(hI i (by omega)).2,g1.1,g2.1,fun e=>⟨g1.2 e,g2.2 e⟩⟩
 ·exact ⟨hl,hnc,hcm,fun h=>absurd h hn,ha⟩
theorem cx_ratsC {xs:List RatD} {us:List Value} (hC:∀ b i,C b i→lo≤b∧b<hi) (h:CX C w (ratsD xs) us):∃ a n c,us=[.slice a n c]∧RatsA false lo hi w a n c xs:=by
 obtain ⟨a,n,c,vs,rfl,h2,h3,h4,h5,h6,h7,h8,h9⟩:=h
 obtain ⟨rfl,hI⟩:=cxk_rats h3
 rw [List.length_map] at h2
 refine ⟨a,n,c,rfl,ratsMk0 h2 h5 h6 h7 hI fun hn=>?_⟩
 obtain ⟨b,off,ha,hc⟩:=h9 hn
 have f:=flatR_at (xs:=xs) (i:=0) (by omega)
 have hb:=hC b _ (hc _ _ f.1).1
 exact ⟨b,off,ha,hb.1,hb.2,fun i u hu=>⟨(hc i u hu).2,fun h=>(by cases h)⟩⟩
end
section
variable {fz:Bool} {lo hi B lo':Nat} {w w':World} {a:Option Addr} {n c:Nat} {xs:List (List RatD)}
end
section
variable {fz:Bool} {lo hi:Nat} {w:World} {a:Option Addr} {n c:Nat} {xs:List (List RatD)} {ba ca:Option Addr} {bn bc cn cc:Nat} {bs cs:List RatD}
end
end Go.Proofs.YteiaofkgbdlpoaaDoor
namespace Go.Proofs.YteiaofkgbdlpoaaDoor
set_option linter.unusedSimpArgs false
set_option linter.unusedVariables false
open Go.RowKit
def GvRatR (lo:Nat) (w:World) (xs:List RatD) (v:RatD) (b:Bool) (e:Ending) (w':World):Prop:=∃ a n c,e=.returned (.tuple #[.slice a n c,ratV v.num v.den,.bool b])∧RatsA false lo w'.heap.size w' a n c xs∧Below w.heap.size w w'
def GvRatS (w:World) (xs:List RatD) (v:RatD) (b:Bool) (e:Ending) (w':World):Prop:=∃ a n c,e=.returned (.tuple #[.slice a n c,ratV v.num v.den,.bool b])∧RatsA true w.heap.size w'.heap.size w' a n c xs∧Below w.heap.size w w'
theorem cv_tup3 {G:Gh} {w:World} {x y z:AV} {v:Value} (h:CV G w (.tup [x,y,z]) v):∃ a b c,v=.tuple #[a,b,c]∧CV G w x a∧CV G w y b∧CV G w z c:=by
 obtain ⟨vs,rfl,a,us,rfl,h1,b,us',rfl,h2,c,us'',rfl,h3,rfl⟩:=h
 exact ⟨a,b,c,rfl,h1,h2,h3⟩
theorem rat_read {f:FuncId} {args:List AV} {b:BestS} {lo:Nat} {w:World} {vs:List Value} (hA:AFn f args [] (fun r os=>r=ansBS b∧os=[])) (hv:∀ G:Gh,G.C=cellsC lo w→CVs G w args vs) (hlw:lo≤w.heap.size) :
 Calls Tryd.prog f vs.toArray w (GvRatR lo w b.pt b.val b.found):=by
 refine (afn_calls hA (C0:=cellsC lo w) (fun b i h=>h.2.1) hv).mono ?_
 rintro e w' ⟨v,G',rfl,h1,hb,hcs,hlc,huf⟩
 have hC:∀ b i,G'.C b i→lo≤b∧b<w'.heap.size:=fun b i hc=>by
  refine ⟨?_,hcs b i hc⟩
  by_cases h:b<w.heap.size
  ·exact (hlc b i hc h).1
  ·omega
 obtain ⟨x,y,z,rfl,h2,h3,h4⟩:=cv_tup3 h1
 obtain ⟨a,n,c,e1,hR⟩:=cx_ratsC hC (cvSl.1 h2)
 simp only [List.cons.injEq,and_true] at e1
 subst e1
 obtain ⟨rfl,_⟩:=cv_ratS h3
 obtain rfl:=cvBool.1 h4
 exact ⟨a,n,c,rfl,hR,hb⟩
theorem rat_own' {f:FuncId} {b:BestS} {w:World} {vs:List Value} (hA:Calls Tryd.prog f vs.toArray w (Out (cellsC 0 w) (ansB b) w)):Calls Tryd.prog f vs.toArray w (GvRatS w b.pt b.val b.found):=by
 refine hA.mono ?_
 rintro e w' ⟨v,G',rfl,h1,hb,hcs,hlc,huf⟩
 obtain ⟨x,y,z,rfl,h2,h3,h4⟩:=cv_tup3 h1
 obtain ⟨rfl,_⟩:=cv_ratS h3
 obtain rfl:=cvBool.1 h4
 obtain ⟨a,n,c,vs',e1,g2,g3,⟨f1,f2,f3,f4,f5,f6⟩,g5⟩:=cvWh.1 h2
 simp only [List.cons.injEq,and_true] at e1
 subst e1
 obtain ⟨rfl,hI⟩:=cxk_rats g3
 simp only [List.length_map] at g2
 refine ⟨a,n,c,rfl,ratsMk0 g2 f2 f3 f4 hI (fun hn=>?_),hb⟩
 obtain ⟨rb,roff,hra,hrc⟩:=f6 hn
 obtain ⟨rb',hra',N,hrt⟩:=g5 hn
 rw [hra] at hra'
 simp only [Option.some.injEq,Addr.mk.injEq,and_true] at hra'
 obtain ⟨rfl,rfl⟩:=hra'
 have hge:w.heap.size≤rb:=by
  by_cases h:rb<w.heap.size
  ·exact absurd ⟨N,fun i hi=>hlc rb i (hrt i hi) h⟩ (no_tag (lo:=0) (w:=w) (b:=rb))
  ·omega
 have c0:=hrc _ _ (flatR_at (xs:=b.pt) (i:=0) (by omega)).1
 exact ⟨rb,0,hra,hge,hcs rb _ c0.1,fun i u hu=>⟨(hrc i u hu).2,fun _=>huf rb _ (hrc i u hu).1 hge⟩⟩
def GvMarkRats (lo hi:Nat) (w:World) (k:Int) (a:Option Addr) (n c:Nat) (xs:List RatD) (e:Ending) (w':World):Prop:=e=.returned (.int .i64 (k+(xs.length*2:Nat)))∧MarkedG lo hi w w'∧RatsA true lo hi w' a n c (mkRats k xs.length)
theorem resK_Rats {lo hi:Nat} (a:Option Addr) (n c:Nat) (xs:List RatD) (k:Int) (w:World) (hI:RatsA true lo hi w a n c xs) (hh:hi≤w.heap.size) (h0:0≤k) (h1:k≤1048576) (hs:xs.length≤1048576) :
 Calls Tryd.prog 19 #[.slice a n c,.int .i64 k] w (GvMarkRats lo hi w k a n c xs):=by
 have hl:=hI.len
 refine (markRats a n c xs k w hI h0 (by omega) (by omega)).mono ?_
 rintro e w' ⟨h2,h3,h4⟩
 exact ⟨by rw [h2,← hl];congr 2;omega,.of_marked h3,by rw [hl];exact h4⟩
theorem heldK_Rats {fz:Bool} {lo hi:Nat} (a:Option Addr) (n c:Nat) (xs:List RatD) (k:Int) (w:World) (hI:RatsA fz lo hi w a n c (mkRats k xs.length)) (hh:hi≤w.heap.size) (h0:0≤k) (h1:k≤1048576) (hs:xs.length≤1048576) :
 Calls Tryd.prog 20 #[.slice a n c,.int .i64 k] w (Leaves w (.int .i64 (k+(xs.length*2:Nat)))):=by
 have hl:xs.length=n:=by rw [← mkRats_len k xs.length];exact hI.len
 subst hl
 have:=(heldRats a xs.length c k w hI h0 (by omega) hs).mono fun _ _ h=>h.leaves
 have e:k+((xs.length*2:Nat):Int)=k+2*(xs.length:Nat):=by omega
 rw [e]
 exact this
section
variable {fz:Bool} {lo hi:Nat} {w:World} {a:Option Addr} {n c:Nat} {xs:List (List RatD)} {ba ca:Option Addr} {bn bc cn cc:Nat} {bs cs:List RatD}
end
end Go.Proofs.YteiaofkgbdlpoaaDoor
namespace Go.Proofs.YteiaofkgbdlpoaaDoor
set_option linter.unusedSimpArgs false
set_option linter.unusedVariables false
attribute [local go_sem ↓] reduceIte
attribute [local go_sem] Nat.reduceEqDiff Nat.reduceLT Nat.reduceAdd Nat.reduceLeDiff Nat.reduceMul Nat.reduceBEq Nat.reduceSub reduceCtorEq Int.reduceLE Int.reduceNeg Int.reduceLT
open Go.RowKit
theorem take_mapI {α β:Type} (f:α→β) (l:List α) (d:α) {i:Nat} (h:i<l.length):(l.take (i+1)).map f=(l.take i).map f ++ [f (l.getD i d)]:=by
 rw [List.take_add_one,List.getElem?_eq_getElem h,List.map_append]
 simp [List.getD,h]
def trQ (A:List (List RatD)) (n:Nat):List (List RatD):=(List.range n).map fun k=>A.map fun r=>qx r k
section
variable (A:List (List RatD)) (m n:Nat) (hOK:matOK A m n=true) (hm:1≤m∧m≤1000) (hn:n≤1000)
include hOK hm hn
end
structure LpS where
 A:List (List RatD)
 B:List RatD
 C:List RatD
 ok:Bool
def ansP (p:LpS):AV:=.tup [.d (lpD p.A p.B p.C),.d (.bool p.ok)]
theorem noLp:ALe (.tup [.d (.agg [.sl 1 [],.sl 1 [],.sl 1 []]),.d (.bool false)]) (.tup [.d (.agg [.sl 1 [],.sl 2 [],.sl 2 []]),.d (.bool false)]):=.tup (.cons (ALe.dd (dle_agg (.cons (dle_refl _) (.cons (dle_nil 1 2) (.cons (dle_nil 1 2) .nil))))) (.cons (.refl _) .nil))
def dlF (A:List (List RatD)) (B C:List RatD):LpS:=if lpV A B C=true then ⟨trQ A C.length,C,B,true⟩ else ⟨[],[],[],false⟩
section
variable (A:List (List RatD)) (B C:List RatD) (hA:A.length≤1048576) (hr:∀ i,i<A.length→(mx A i).length≤1048576) (hB:B.length≤1048576) (hC:C.length≤1048576)
include hA hr hB hC
end
end Go.Proofs.YteiaofkgbdlpoaaDoor
namespace Go.Proofs.YteiaofkgbdlpoaaDoor
set_option linter.unusedSimpArgs false
set_option linter.unusedVariables false
attribute [local go_sem ↓] reduceIte
attribute [local go_sem] Nat.reduceEqDiff Nat.reduceLT Nat.reduceAdd Nat.reduceLeDiff Nat.reduceMul Nat.reduceBEq Nat.reduceSub reduceCtorEq Int.reduceLE Int.reduceNeg Int.reduceLT
open Go.RowKit
end Go.Proofs.YteiaofkgbdlpoaaDoor
namespace Go.Proofs.YteiaofkgbdlpoaaDoor
set_option linter.unusedSimpArgs false
set_option linter.unusedVariables false
open Go.RowKit
noncomputable def occ (xs:List Int) (v:Int):Bool:=decide (0≤findF xs v)
theorem occ_at {xs:List Int} {v:Int} {i:Nat} (hi:i<xs.length) (h:ix xs i=v) (hn:∀ j,j<i→ix xs j ≠ v):occ xs v=true:=by
 unfold occ;rw [findF_eq hi h hn];simp
theorem occ_none {xs:List Int} {v:Int} (h:∀ i,i<xs.length→ix xs i ≠ v):occ xs v=false:=by
 unfold occ;rw [findF_none h];simp
set_option maxHeartbeats 800000 in
theorem implHasVar {fz:Bool} {lo hi:Nat} (s:ByteArray) (a:Option Addr) (n c:Nat) (xs:List Int) (v:Int) (w:World) (hI:IntsA fz lo hi w a n c xs) (hh:hi≤w.heap.size) :
 Calls Tryd.prog 54 #[atomV s a n c,.int .i64 v] w (Leaves w (.bool (occ xs v))):=by
 go_enter Tryd.func54,Tryd.ntmps54
 go_wp2_with fail
 refine (implHasInt a n c xs v _ (beInts (B:=w.heap.size) hI belA hh)).mono ?_
 rintro e w1 ⟨rfl,m1,rfl⟩
 go_wp2_with fail
 go_ret
 exact ⟨rfl,belA⟩
set_option maxHeartbeats 800000 in
theorem specHasVar {fz:Bool} {lo hi:Nat} (s:ByteArray) (a:Option Addr) (n c:Nat) (xs:List Int) (v:Int) (w:World) (hI:IntsA fz lo hi w a n c xs) (hh:hi≤w.heap.size) :
 Calls Tryd.prog 26 #[atomV s a n c,.int .i64 v] w (Leaves w (.bool (occ xs v))):=by
 have hl:=hI.len
 have hs:=hI.small
 have HL:=hid hl;clear hl
 obtain ⟨W,hW⟩:∃ W,W=w.alloc (.cells #[.string s,.slice a n c] 54):=⟨_,rfl⟩
 have hBW:Below w.heap.size w W:=by rw [hW];exact belA
 have c1:W.cell? ⟨w.heap.size,1,none⟩=some (.slice a n c):=by rw [hW];simp
 have hIW:=beInts hI hBW hh
 have HW:=hid (And.intro hW hBW);clear hW hBW hI
 go_enter Tryd.func26,Tryd.ntmps26
 go_upto_region 1 with fail
 rw [← HW.out.1]
 go_wp2_with fail
 go_loop [5] (fun i=>∃ k:Nat,i=.int .i64 k∧k≤n∧Hid (∀ j,j<k→ix xs j ≠ v)) (fun i=>n - (intOf i).toNat)
 case atStart=>exact ⟨0,rfl,by omega,hid (fun j hj=>by omega)⟩
 case round =>
  obtain ⟨k,rfl,hk,HT⟩:=hrel
  by_cases hlt:k<n
  ·obtain ⟨b,off,rfl,_,_,hc,_⟩:=hIW.open (by omega)
   have c2:=hc k hlt
   clear hc
   generalize hx:ix xs k=x at *
   have HX:=hid hx;clear hx
   by_cases he:x=v
   ·have hb:(x == v)=true:=by simp [he]
    have HF:=hid (occ_at (xs:=xs) (v:=v) (i:=k) (by rw [HL.out];exact hlt) (by rw [HX.out];exact he) HT.out)
    have HE:=hid he;clear he
    go_wp2_with fail
    go_ret
    exact ⟨by rw [HF.out];rfl,HW.out.2⟩
   ·have hb:(x == v)=false:=by simp [he]
    have HT2:Hid (∀ j,j<k+1→ix xs j ≠ v):=hid (fun j hj=>by
     by_cases e:j=k
     ·subst e;rw [HX.out];exact he
     ·exact HT.out j (by omega))
    have HE:=hid he;clear he
    go_wp2_with fail
    go_round
    case rel=>exact ⟨k+1,by go_num,by omega,HT2⟩
    case measure=>simp [intOf];omega
  ·have HF:=hid (occ_none (xs:=xs) (v:=v) (by rw [HL.out];intro j hj;exact HT.out j (by omega)))
   go_wp2_with fail
   go_ret
   exact ⟨by rw [HF.out];rfl,HW.out.2⟩
noncomputable def avTo (xs:List Int):Nat→List Int
 | 0=>[]
 | k+1=>if occ xs k=true then avTo xs k ++ [(k:Int)] else avTo xs k
end Go.Proofs.YteiaofkgbdlpoaaDoor
namespace Go.Proofs.YteiaofkgbdlpoaaDoor
set_option linter.unusedSimpArgs false
set_option linter.unusedVariables false
open Go.RowKit
def sx (s:ByteArray) (i:Nat):Int:=if h:i<s.size then (s[i].toNat:Int) else 0
theorem sx_lt {s:ByteArray} {i:Nat} (h:i<s.size):sx s i=(s[i].toNat:Int):=by simp [sx,h]
def LetTo (s:ByteArray) (k:Nat):Prop:=∀ i,i<k→97≤sx s i∧sx s i≤122
open Classical in
noncomputable def nameOK (s:ByteArray):Bool:=decide ((1≤s.size∧s.size≤4)∧LetTo s s.size)
theorem nameOK_size {s:ByteArray} (h:¬ (1≤s.size∧s.size≤4)):nameOK s=false:=by simp only [nameOK,decide_eq_false_iff_not];exact fun g=>h g.1
theorem nameOK_let {s:ByteArray} {i:Nat} (hi:i<s.size) (h:¬ (97≤sx s i∧sx s i≤122)):nameOK s=false:=by simp only [nameOK,decide_eq_false_iff_not];exact fun g=>h (g.2 i hi)
theorem nameOK_yes {s:ByteArray} (h:1≤s.size∧s.size≤4) (h2:LetTo s s.size):nameOK s=true:=by simp only [nameOK,decide_eq_true_eq];exact ⟨h,h2⟩
set_option maxHeartbeats 800000 in
theorem implLetters (s:ByteArray) (w:World) (hs:s.size≤9223372036854775807):Calls Tryd.prog 66 #[.string s,.int .i64 4] w (Leaves w (.bool (nameOK s))):=by
 by_cases h1:1≤s.size∧s.size≤4
 ·obtain ⟨h1a,h1b⟩:=h1
  go_enter Tryd.func66,Tryd.ntmps66
  go_wp2_with fail
  go_loop [5] (fun i=>∃ k:Nat,i=.int .i64 k∧k≤s.size∧Hid (LetTo s k)) (fun i=>s.size - (intOf i).toNat)
  case atStart=>exact ⟨0,rfl,Nat.zero_le _,hid (fun i hi=>by omega)⟩
  case round =>
   obtain ⟨k,rfl,hk,HT⟩:=hrel
   by_cases hlt:k<s.size
   ·have HX:=hid (sx_lt hlt)
    by_cases g1:(s[k].toNat:Int)<97
    ·have HF:=hid (nameOK_let hlt (fun g=>by rw [HX.out] at g;omega))
     go_wp2_with fail
     go_ret
     exact ⟨by rw [HF.out];rfl,belA⟩
    ·by_cases g2:122<(s[k].toNat:Int)
     ·have HF:=hid (nameOK_let hlt (fun g=>by rw [HX.out] at g;omega))
      go_wp2_with fail
      go_ret
      exact ⟨by rw [HF.out];rfl,belA⟩
     ·have HT2:Hid (LetTo s (k+1)):=hid (fun i hi=>by
       by_cases e:i=k
       ·subst e;rw [HX.out];omega
       ·exact HT.out i (by omega))
      go_wp2_with fail
      go_round
      case rel=>exact ⟨k+1,by go_num,by omega,HT2⟩
      case measure=>simp [intOf];omega
   ·have HF:=hid (nameOK_yes ⟨h1a,h1b⟩ (by intro i hi;exact HT.out i (by omega)))
    go_wp2_with fail
    go_ret
    exact ⟨by rw [HF.out];rfl,belA⟩
 ·have HF:=hid (nameOK_size h1)
  by_cases h2:s.size<1
  ·go_enter Tryd.func66,Tryd.ntmps66
   go_wp2_with fail
   go_ret
   exact ⟨by rw [HF.out];rfl,belA⟩
  ·have h3:4<s.size:=by omega
   clear h1
   go_enter Tryd.func66,Tryd.ntmps66
   go_wp2_with fail
   go_ret
   exact ⟨by rw [HF.out];rfl,belA⟩
theorem implName (s:ByteArray) (w:World) (hs:s.size≤9223372036854775807):Calls Tryd.prog 52 #[.string s] w (Leaves w (.bool (nameOK s))):=by
 go_enter Tryd.func52,Tryd.ntmps52
 go_wp2_with fail
 refine (implLetters s _ hs).mono ?_
 rintro e w1 ⟨rfl,hb1⟩
 go_wp2_with fail
 go_ret
 exact ⟨rfl,hb1⟩
set_option maxHeartbeats 800000 in
theorem specName (s:ByteArray) (w:World) (hs:s.size≤9223372036854775807):Calls Tryd.prog 47 #[.string s] w (Leaves w (.bool (nameOK s))):=by
 go_enter Tryd.func47,Tryd.ntmps47
 go_wp2_with fail
 go_loop [3] (fun i=>∃ k:Nat,i=.int .i64 k∧k≤s.size∧Hid (LetTo s k)) (fun i=>s.size - (intOf i).toNat)
 case atStart=>exact ⟨0,rfl,Nat.zero_le _,hid (fun i hi=>by omega)⟩
 case round =>
  obtain ⟨k,rfl,hk,HT⟩:=hrel
  by_cases hlt:k<s.size
  ·have HX:=hid (sx_lt hlt)
   by_cases g1:(s[k].toNat:Int)<97
   ·have HF:=hid (nameOK_let hlt (fun g=>by rw [HX.out] at g;omega))
    go_wp2_with fail
    go_ret
    exact ⟨by rw [HF.out];rfl,belA⟩
   ·by_cases g2:122<(s[k].toNat:Int)
    ·have HF:=hid (nameOK_let hlt (fun g=>by rw [HX.out] at g;omega))
     go_wp2_with fail
     go_ret
     exact ⟨by rw [HF.out];rfl,belA⟩
    ·have HT2:Hid (LetTo s (k+1)):=hid (fun i hi=>by
      by_cases e:i=k
      ·subst e;rw [HX.out];omega
      ·exact HT.out i (by omega))
     go_wp2_with fail
     go_round
     case rel=>exact ⟨k+1,by go_num,by omega,HT2⟩
     case measure=>simp [intOf];omega
  ·have hT:LetTo s s.size:=fun i hi=>HT.out i (by omega)
   have HTT:=hid hT;clear hT
   obtain ⟨d,hd⟩:∃ d,decide ((1:Int)≤s.size∧(s.size:Int)≤4)=d:=⟨_,rfl⟩
   have HD:=hid hd;clear hd
   have HF:Hid (nameOK s=d):=hid (by
    rw [← HD.out]
    by_cases h:1≤s.size∧s.size≤4
    ·rw [nameOK_yes h HTT.out];symm;simp;omega
    ·rw [nameOK_size h];symm;simp;omega)
   go_wp2_with fail
   refine (specIn s.size 1 4 _).mono ?_
   rintro e w1 ⟨rfl,m1,rfl⟩
   rw [HD.out]
   go_wp2_with fail
   go_ret
   exact ⟨by rw [HF.out];rfl,belA⟩
end Go.Proofs.YteiaofkgbdlpoaaDoor
namespace Go.Proofs.YteiaofkgbdlpoaaDoor
set_option linter.unusedSimpArgs false
set_option linter.unusedVariables false
open Go.RowKit
theorem pigeon:∀ (n k:Nat) (f:Nat→Int),(∀ i,i<k→0≤f i∧f i<n)→(∀ i j,i<j→j<k→f i ≠ f j)→k≤n
 | 0,k,f,h1,_=>by
  by_cases hk:0<k
  ·have:=h1 0 hk;omega
  ·omega
 | n+1,k,f,h1,h2=>by
  by_cases h:∃ i,i<k∧f i=n
  ·obtain ⟨i0,hi0,he⟩:=h
   have:=pigeon n (k - 1) (fun j=>if j<i0 then f j else f (j+1)) (fun j hj=>by
    show 0≤(if j<i0 then f j else f (j+1))∧(if j<i0 then f j else f (j+1))<n
    split
    ·next g =>
     have a:=h1 j (by omega);have b:=h2 j i0 g hi0;rw [he] at b
     exact ⟨a.1,by omega⟩
    ·next g =>
     have a:=h1 (j+1) (by omega);have b:=h2 i0 (j+1) (by omega) (by omega);rw [he] at b
     exact ⟨a.1,by omega⟩) (fun i j hij hj=>by
    show (if i<i0 then f i else f (i+1)) ≠ (if j<i0 then f j else f (j+1))
    split
    ·split
     ·exact h2 i j hij (by omega)
     ·exact h2 i (j+1) (by omega) (by omega)
    ·split
     ·omega
     ·exact h2 (i+1) (j+1) (by omega) (by omega))
   omega
  ·have:=pigeon n k f (fun i hi=>by
    have a:=h1 i hi
    have b:f i ≠ n:=fun e=>h ⟨i,hi,e⟩
    exact ⟨a.1,by omega⟩) h2
   omega
theorem firstIx_sr (p:Nat→Prop) (n:Nat):(firstIx p n<n→p (firstIx p n))∧∀ j,j<firstIx p n→¬ p j:=by
 induction n with
 | zero=>exact ⟨fun h=>by simp [firstIx] at h,fun j hj=>by simp [firstIx] at hj⟩
 | succ n ih =>
  by_cases h1:firstIx p n<n
  ·have e:firstIx p (n+1)=firstIx p n:=by simp only [firstIx];rw [if_pos h1]
   rw [e];exact ⟨fun _=>ih.1 h1,ih.2⟩
  ·have h0:=firstIx_le p n
   have hn:firstIx p n=n:=by omega
   rw [hn] at ih
   by_cases h2:p n
   ·have e:firstIx p (n+1)=n:=by simp only [firstIx];rw [if_neg h1,if_pos h2]
    rw [e];exact ⟨fun _=>h2,ih.2⟩
   ·have e:firstIx p (n+1)=n+1:=by simp only [firstIx];rw [if_neg h1,if_neg h2]
    rw [e];exact ⟨fun h=>by omega,fun j hj=>by
     by_cases ej:j=n
     ·subst ej;exact h2
     ·exact ih.2 j (by omega)⟩
theorem findF_miss {xs:List Int} {v:Int} (h:¬ 0≤findF xs v):∀ i,i<xs.length→ix xs i ≠ v:=by
 intro i hi e
 have hs:=firstIx_sr (fun i=>ix xs i=v) xs.length
 unfold findF at h
 split at h
 ·omega
 ·next g=>exact hs.2 i (by omega) e
theorem findF_hit {xs:List Int} {v:Int} (h:0≤findF xs v):∃ i,i<xs.length∧ix xs i=v:=by
 have hs:=firstIx_sr (fun i=>ix xs i=v) xs.length
 unfold findF at h
 split at h
 ·next g=>exact ⟨_,g,hs.1 g⟩
 ·omega
theorem set_len {us:List Int} {n:Nat} (h:SetTo us n us.length):us.length≤n:=by
 refine pigeon n us.length (ix us) (fun i hi=>?_) (fun i j hij hj e=>?_)
 ·have:=(h i hi).1;omega
 ·have h2:=findF_miss (h j hj).2 i (by rw [List.length_take];omega)
  apply h2
  rw [← e];simp [ix,hij]
noncomputable def backF (cols:List Int) (k:Nat):List Int:=(List.range k).map fun (i:Nat)=>findF cols (i:Int)
end Go.Proofs.YteiaofkgbdlpoaaDoor
namespace Go.Proofs.YteiaofkgbdlpoaaDoor
set_option linter.unusedSimpArgs false
set_option linter.unusedVariables false
open Go.RowKit
def AtomOK (nv:Int) (x:AtomD):Prop:=nameOK x.nm=true∧(1≤x.vs.length∧x.vs.length≤5)∧∀ j,j<x.vs.length→0≤ix x.vs j∧ix x.vs j≤nv - 1
def HeadOK (nv:Int) (n:Nat):Prop:=(1≤nv∧nv≤5)∧1≤n∧n≤4
def CovOK (nv:Int) (xs:List AtomD):Prop:=∀ v:Nat,(v:Int)<nv→∃ i,i<xs.length∧occ (ax xs i).vs v=true
open Classical in
noncomputable def qOK (nv:Int) (xs:List AtomD) (us:List Int):Bool :=
 decide (HeadOK nv xs.length∧SetTo us nv us.length∧(∀ i,i<xs.length→AtomOK nv (ax xs i))∧CovOK nv xs)
section
variable {nv:Int} {xs:List AtomD} {us:List Int}
theorem qOK_yes (h1:HeadOK nv xs.length) (h2:SetTo us nv us.length) (h3:∀ i,i<xs.length→AtomOK nv (ax xs i)) (h4:CovOK nv xs):qOK nv xs us=true:=by
 simp only [qOK,decide_eq_true_eq];exact ⟨h1,h2,h3,h4⟩
theorem qOK_out (h:qOK nv xs us=true):HeadOK nv xs.length∧SetTo us nv us.length∧(∀ i,i<xs.length→AtomOK nv (ax xs i))∧CovOK nv xs:=by
 simpa only [qOK,decide_eq_true_eq] using h
theorem qOK_head (h:¬ HeadOK nv xs.length):qOK nv xs us=false:=by simp only [qOK,decide_eq_false_iff_not];exact fun g=>h g.1
theorem qOK_set (h:¬ SetTo us nv us.length):qOK nv xs us=false:=by simp only [qOK,decide_eq_false_iff_not];exact fun g=>h g.2.1
theorem qOK_atom {i:Nat} (hi:i<xs.length) (h:¬ AtomOK nv (ax xs i)):qOK nv xs us=false:=by simp only [qOK,decide_eq_false_iff_not];exact fun g=>h (g.2.2.1 i hi)
theorem qOK_cov (h:¬ CovOK nv xs):qOK nv xs us=false:=by simp only [qOK,decide_eq_false_iff_not];exact fun g=>h g.2.2.2
theorem qOK_long (h0:0≤nv) (h:¬ (us.length:Int)≤nv):qOK nv xs us=false:=by
 refine qOK_set (fun g=>h ?_)
 obtain ⟨n,rfl⟩:=Int.eq_ofNat_of_zero_le h0
 have:=set_len g;omega
end
end Go.Proofs.YteiaofkgbdlpoaaDoor
namespace Go.Proofs.YteiaofkgbdlpoaaDoor
set_option linter.unusedSimpArgs false
set_option linter.unusedVariables false
open Go.RowKit
theorem infoBool:(Tryd.prog.info? 4).map (fun i=>(i.zero,i.size,i.bytes))=some (some (.bool false),1,1):=by kernel_rfl
def BoolsAt (g:Nat) (w:World) (n:Nat) (us:List Bool):Prop:=w.ownsRow g 4 1 (.slice (some ⟨g,0,none⟩) n n) n (us.map Value.bool)
def bx (us:List Bool) (i:Nat):Bool:=us.getD i false
theorem BoolsAt.len {g:Nat} {w:World} {n:Nat} {us:List Bool} (h:BoolsAt g w n us):us.length=n:=by have:=h.1;simpa using this
theorem BoolsAt.cell {g:Nat} {w:World} {n:Nat} {us:List Bool} (h:BoolsAt g w n us) {q:Nat} (hq:q<n):w.cell? ⟨g,q,none⟩=some (.bool (bx us q))∧w.frozen? ⟨g,q,none⟩=false:=by
 have hl:=h.len
 have:=h.cells (g:=g) rfl q (.bool (bx us q)) (by rw [List.getElem?_map,List.getElem?_eq_getElem (by omega)];simp [bx,hl,hq])
 rw [Addr.add_lit] at this
 exact ⟨by simpa using this,h.frozenAt q⟩
theorem BoolsAt.be {g:Nat} {w w':World} {n:Nat} {us:List Bool} (h:BoolsAt g w n us) (hb:Below w.heap.size w w'):BoolsAt g w' n us :=
 World.ownsRow.kept h (row:=none) ⟨hb.os,hb.tape,hb.output,hb.size,fun k hk _=>hb.block k hk⟩ (.inr (by simp [Value.ownBlock]))
theorem BoolsAt.set {g:Nat} {w:World} {n:Nat} {us:List Bool} (h:BoolsAt g w n us) (q:Nat) (b:Bool):BoolsAt g (w.setCell ⟨g,q,none⟩ (.bool b)) n (us.set q b):=by
 have:=(h.stored q (.bool b)).1
 rw [show (us.map Value.bool).set q (.bool b)=(us.set q b).map Value.bool by rw [List.map_set]] at this
 exact this
theorem BoolsAt.lt {g:Nat} {w:World} {n:Nat} {us:List Bool} (h:BoolsAt g w n us):g<w.heap.size:=(World.ownsRow.lt h g rfl).2
def Seen (xs:List AtomD) (i j:Nat) (v:Nat):Prop:=(∃ i',i'<i∧occ (ax xs i').vs v=true)∨∃ j',j'<j∧ix (ax xs i).vs j'=(v:Int)
def SeenAll (xs:List AtomD) (i j n:Nat) (us:List Bool):Prop:=us.length=n∧∀ v,v<n→(bx us v=true↔Seen xs i j v)
theorem bx_set (us:List Bool) (q v:Nat) (hq:q<us.length):bx (us.set q true) v=true↔v=q∨bx us v=true:=by
 unfold bx
 by_cases e:v=q
 ·subst e;simp [List.getD,hq]
 ·simp only [List.getD,List.getElem?_set_ne (Ne.symm e)]
  exact ⟨fun h=>.inr h,fun h=>h.elim (fun h=>absurd h e) id⟩
theorem SeenAll.step {xs:List AtomD} {i j n q:Nat} {us:List Bool} (h:SeenAll xs i j n us) (hq:q<n) (hx:ix (ax xs i).vs j=(q:Int)):SeenAll xs i (j+1) n (us.set q true):=by
 refine ⟨by simpa using h.1,fun v hv=>?_⟩
 rw [bx_set us q v (by rw [h.1];exact hq),h.2 v hv]
 constructor
 ·rintro (rfl | h1 | ⟨j',h1,h2⟩)
  ·exact .inr ⟨j,by omega,hx⟩
  ·exact .inl h1
  ·exact .inr ⟨j',by omega,h2⟩
 ·rintro (h1 | ⟨j',h1,h2⟩)
  ·exact .inr (.inl h1)
  ·by_cases e:j'=j
   ·subst e;rw [hx] at h2;left;omega
   ·exact .inr (.inr ⟨j',by omega,h2⟩)
theorem SeenAll.next {xs:List AtomD} {i n:Nat} {us:List Bool} (h:SeenAll xs i (ax xs i).vs.length n us):SeenAll xs (i+1) 0 n us:=by
 refine ⟨h.1,fun v hv=>?_⟩
 rw [h.2 v hv]
 constructor
 ·rintro (⟨i',h1,h2⟩ | ⟨j',h1,h2⟩)
  ·exact .inl ⟨i',by omega,h2⟩
  ·refine .inl ⟨i,by omega,?_⟩
   cases ho:occ (ax xs i).vs v with
   | true=>rfl
   | false =>
    have:¬ 0≤findF (ax xs i).vs v:=by simpa [occ] using ho
    exact absurd h2 (findF_miss this j' h1)
 ·rintro (⟨i',h1,h2⟩ | ⟨j',h1,_⟩)
  ·by_cases e:i'=i
   ·subst e
    obtain ⟨j',g1,g2⟩:=findF_hit (by simpa [occ] using h2)
    exact .inr ⟨j',g1,g2⟩
   ·exact .inl ⟨i',by omega,h2⟩
  ·omega
theorem SeenAll.start (xs:List AtomD) (n:Nat):SeenAll xs 0 0 n (List.replicate n false):=by
 refine ⟨by simp,fun v hv=>?_⟩
 constructor
 ·intro h;simp [bx,hv] at h
 ·rintro (⟨i',h1,_⟩ | ⟨j',h1,_⟩) <;> omega
theorem SeenAll.cov {xs:List AtomD} {n:Nat} {us:List Bool} (h:SeenAll xs xs.length 0 n us) (ha:∀ v,v<n→bx us v=true):CovOK n xs:=by
 intro v hv
 have:=(h.2 v (by omega)).1 (ha v (by omega))
 rcases this with ⟨i,h1,h2⟩ | ⟨j',h1,_⟩
 ·exact ⟨i,h1,h2⟩
 ·omega
theorem SeenAll.nocov {xs:List AtomD} {n:Nat} {us:List Bool} (h:SeenAll xs xs.length 0 n us) {v:Nat} (hv:v<n) (ha:bx us v=false):¬ CovOK n xs:=by
 intro hc
 obtain ⟨i,h1,h2⟩:=hc v (by omega)
 have:=(h.2 v hv).2 (.inl ⟨i,h1,h2⟩)
 rw [ha] at this;cases this
theorem intsAtB {fz:Bool} {lo hi:Nat} {w:World} {a:Option Addr} {n c:Nat} {xs:List Int} (h:IntsA fz lo hi w a n c xs) {i:Nat} (hi':i<n) :
 ∃ b off,a=some ⟨b,off,none⟩∧w.cell? ⟨b,off+i,none⟩=some (.int .i64 (ix xs i))∧I64 (ix xs i):=by
 obtain ⟨b,off,rfl,_,_,hc,_⟩:=h.open (by omega)
 exact ⟨b,off,rfl,hc i hi',h.at hi'⟩
theorem setB_iff (us:List Int) (n:Int):setB us n=true↔SetTo us n us.length:=by simp [setB]
set_option maxRecDepth 100000 in
set_option maxHeartbeats 6400000 in
theorem implValidQ {fz:Bool} {lo hi:Nat} (nv:Int) (a:Option Addr) (n c:Nat) (xs:List AtomD) (ua:Option Addr) (un uc:Nat) (us:List Int) (w:World) (hI:QueryA fz lo hi w nv a n c xs ua un uc us) (hh:hi≤w.heap.size) :
 Calls Tryd.prog 29 #[queryV nv a n c ua un uc] w (Leaves w (.bool (qOK nv xs us))):=by
 have hlx:=hI.2.1.len
 have hsx:=hI.2.1.small
 have HL:=hid (And.intro hlx hI.2.2.len);clear hlx
 have HI:=hid hI;clear hI
 by_cases h1:1≤nv∧nv≤5
 ·have hd1:decide (1≤nv∧nv≤5)=true:=by simpa using h1
  obtain ⟨m,rfl⟩:=Int.eq_ofNat_of_zero_le (show 0≤nv by omega)
  have hm1:1≤m:=by omega
  have hm5:m≤5:=by omega
  by_cases h2:(1:Int)≤n∧(n:Int)≤4
  ·have hd2:decide ((1:Int)≤n∧(n:Int)≤4)=true:=by simpa using h2
   obtain ⟨sb,hsb⟩:∃ sb,setB us m=sb:=⟨_,rfl⟩
   have HSB:=hid hsb;clear hsb
   cases sb with
   | false =>
    have HF:=hid (qOK_set (nv:=(m:Int)) (xs:=xs) (us:=us) (fun g=>by have:=(setB_iff us m).2 g;rw [HSB.out] at this;cases this))
    have H12:=hid (And.intro h1 h2);clear h1 h2
    go_enter Tryd.func29,Tryd.ntmps29
    go_wp2_with fail
    refine (implWithin (m:Int) 1 5 _).mono ?_
    rintro e w1 ⟨rfl,m1,rfl⟩
    rw [hd1]
    go_wp2_with fail
    refine (implWithin (n:Int) 1 4 _).mono ?_
    rintro e w2 ⟨rfl,m2,rfl⟩
    rw [hd2]
    go_wp2_with fail
    refine (implIsSet ua un uc us m _ (beInts (B:=w.heap.size) HI.out.2.2 belA hh) (by omega) (by omega)).mono ?_
    rintro e w3 ⟨rfl,m3,rfl⟩
    rw [HSB.out]
    go_wp2_with fail
    go_ret
    exact ⟨by rw [HF.out];rfl,belA⟩
   | true =>
    have HST:=hid ((setB_iff us m).1 HSB.out)
    have HHD:Hid (HeadOK m xs.length):=hid ⟨h1,by have:=HL.out.1;omega⟩
    have H12:=hid (And.intro h1 h2);clear h1 h2
    obtain ⟨i0,hi0,hz0,hz1,hz2⟩:=info_parts infoBool
    go_enter Tryd.func29,Tryd.ntmps29
    go_wp2_with fail
    refine (implWithin (m:Int) 1 5 _).mono ?_
    rintro e w1 ⟨rfl,m1,rfl⟩
    rw [hd1]
    go_wp2_with fail
    refine (implWithin (n:Int) 1 4 _).mono ?_
    rintro e w2 ⟨rfl,m2,rfl⟩
    rw [hd2]
    go_wp2_with fail
    refine (implIsSet ua un uc us m _ (beInts (B:=w.heap.size) HI.out.2.2 belA hh) (by omega) (by omega)).mono ?_
    rintro e w3 ⟨rfl,m3,hw3⟩
    rw [HSB.out]
    have k0:w3.cell? ⟨w.heap.size,0,none⟩=some (.int .i64 m):=by rw [hw3];simp
    have k1:w3.cell? ⟨w.heap.size,1,none⟩=some (.slice a n c):=by rw [hw3];simp
    have hb3:Below w.heap.size w w3:=by rw [hw3];exact belA
    have hz3:w.heap.size<w3.heap.size:=World.block_lt_of_cell? _ _ k0
    have HB3:=hid hb3;clear hb3 hw3
    go_wp2_with (at_make;refine wpList_make_full _ rfl _ _ 72 rfl w3.heap.size 4 i0 (.bool false) 1 Tryd.underlying72 hi0 hz0 hz1 _ _ _ _ m rfl rfl rfl rfl ?b1 ?b2 ?b3 ?_)
    case b1=>rw [hz2];omega
    case b2=>unfold maxLen;omega
    case b3=>exact Nat.le_refl _
    intro w4 hown hgrow
    have hb4:Below w3.heap.size w3 w4:=(Below.refl _ _).grown hgrow (Nat.le_refl _) (fun k h=>by cases h)
    have hU:BoolsAt w3.heap.size w4 m (List.replicate m false):=by
     have:=hown
     rw [toList_madeCells_one] at this
     unfold BoolsAt
     rw [List.map_replicate];exact this
    have hz4:=hU.lt
    replace k0:w4.cell? ⟨w.heap.size,0,none⟩=some (.int .i64 m):=by rw [(bcell hb4).1 _ _ hz3];exact k0
    replace k1:w4.cell? ⟨w.heap.size,1,none⟩=some (.slice a n c):=by rw [(bcell hb4).1 _ _ hz3];exact k1
    have HA:=hid (beAtoms HI.out.2.1 (HB3.out.trans (hb4.mono (by omega))) hh)
    have HU:=hid hU
    have HB4:=hid (HB3.out.trans (hb4.mono (show w.heap.size≤w3.heap.size by omega)))
    clear hb4 hown hgrow hU
    obtain ⟨g,hg⟩:∃ g,g=w3.heap.size:=⟨_,rfl⟩
    have HUg:Hid (BoolsAt g w4 m (List.replicate m false)):=hid (by rw [hg];exact HU.out)
    have hgw:w.heap.size<g:=by omega
    have hg4:g<w4.heap.size:=by omega
    rw [← hg]
    have HG:=hid hg;clear hg HU
    go_wp2_with fail
    go_loopw [35] (fun s wr=>∃ (i:Nat) (bs:List Bool),s=.int .i64 i∧i≤n∧Hid (BoolsAt g wr m bs)∧Hid (SeenAll xs i 0 m bs)∧Hid (∀ j,j<i→AtomOK m (ax xs j))∧Hid (Below g w4 wr)) (fun s _=>n - (intOf s).toNat)
    case atStart=>exact ⟨0,_,rfl,by omega,HUg,hid (SeenAll.start xs m),hid (fun j hj=>by omega),hid (Below.refl _ _)⟩
    case round =>
     obtain ⟨i,bs,rfl,hi,HBS,HSN,HAO,HBW⟩:=hrel
     have hzr:=HBW.out.size
     have HBWW:=hid (HB4.out.trans (HBW.out.mono (show w.heap.size≤g by omega)))
     by_cases hlt:i<n
     ·have hAr:=beAtoms HI.out.2.1 HBWW.out hh
      obtain ⟨b,off,rfl⟩:=atomsSome hAr (by omega)
      obtain ⟨_,_,hsz,ra,rn,rc,d0,d1,hr,_⟩:=atomsAt hAr hlt
      have hrl:=hr.len
      have hrs:=hr.small
      have HAR:=hid (And.intro hAr hr);clear hAr hr
      have HRL:=hid hrl;clear hrl
      obtain ⟨nb,hnb⟩:∃ nb,nameOK (ax xs i).nm=nb:=⟨_,rfl⟩
      have HNB:=hid hnb;clear hnb
      obtain ⟨nm,hnm⟩:∃ nm,nm=(ax xs i).nm:=⟨_,rfl⟩
      rw [← hnm] at d0 hsz
      have HNM:=hid hnm;clear hnm
      have HFA:=hid (fun (hn:¬ AtomOK m (ax xs i))=>qOK_atom (us:=us) (by rw [HL.out.1];exact hlt) hn)
      have HNC:=hid (fun w'=>by have:=implName nm w' hsz;rwa [show nameOK nm=nb by rw [HNM.out];exact HNB.out] at this)
      cases nb with
      | false =>
       have HF:=hid (HFA.out (fun g=>by have:=g.1;rw [HNB.out] at this;cases this))
       go_wp2_with fail
       refine (HNC.out _).mono ?_
       rintro e w5 ⟨rfl,hb5⟩
       have HB5:=hid (Below.trans (B:=w.heap.size) (Below.trans HBWW.out belA) (hb5.mono leA));clear hb5
       go_wp2_with fail
       go_ret
       exact ⟨by rw [HF.out];rfl,HB5.out⟩
      | true =>
       by_cases h5:(1:Int)≤rn∧(rn:Int)≤5
       ·have hd5:decide ((1:Int)≤rn∧(rn:Int)≤5)=true:=by simpa using h5
        have hr5:rn≤5:=by omega
        have H5:=hid h5;clear h5
        go_wp2_with fail
        refine (HNC.out _).mono ?_
        rintro e w5 ⟨rfl,hb5⟩
        have c50:w5.cell? ⟨wr.heap.size,0,none⟩=some (.string nm):=(by rw [(bcell hb5).1 _ _ (by first | omega | (simp;done) | (simp;omega))];first | with_reducible assumption | (go_simp;done) | assumption | (simp [World.cell?];done))
        have c51:w5.cell? ⟨wr.heap.size,1,none⟩=some (.slice ra rn rc):=(by rw [(bcell hb5).1 _ _ (by first | omega | (simp;done) | (simp;omega))];first | with_reducible assumption | (go_simp;done) | assumption | (simp [World.cell?];done))
        have hz5:wr.heap.size<w5.heap.size:=World.block_lt_of_cell? _ _ c50
        have hb6:Below wr.heap.size wr w5:=Below.trans belA (hb5.mono leA)
        have HB6:=hid hb6
        have HBS5:=hid (HBS.out.be hb6)
        have HBW5:=hid (HBW.out.trans (hb6.mono (by omega)))
        clear hb5 hb6
        go_wp2_with fail
        refine (implWithin (rn:Int) 1 5 _).mono ?_
        rintro e w6 ⟨rfl,m6,hw6⟩
        rw [hd5]
        replace c50:w6.cell? ⟨wr.heap.size,0,none⟩=some (.string nm):=by rw [hw6];exact c50
        replace c51:w6.cell? ⟨wr.heap.size,1,none⟩=some (.slice ra rn rc):=by rw [hw6];exact c51
        have HBS6:Hid (BoolsAt g w6 m bs):=hid (by rw [hw6];exact HBS5.out)
        have HBW6:Hid (Below g w4 w6):=hid (by rw [hw6];exact below_drewN HBW5.out _)
        clear hw6
        go_wp2_with fail
        obtain ⟨wo,hwo⟩:∃ wo:World,wo=wr:=⟨_,rfl⟩
        rw [← hwo] at *
        clear hwo
        go_loopw [53] (fun s wr=>∃ (j:Nat) (bs:List Bool),s=.int .i64 j∧j≤rn∧Hid (BoolsAt g wr m bs)∧Hid (SeenAll xs i j m bs)∧Hid (∀ q,q<j→0≤ix (ax xs i).vs q∧ix (ax xs i).vs q≤(m:Int) - 1)∧Hid (Below g w4 wr)) (fun s _=>rn - (intOf s).toNat)
        case atStart=>exact ⟨0,bs,rfl,by omega,HBS6,HSN,hid (fun q hq=>by omega),HBW6⟩
        case round =>
         obtain ⟨j,cs,rfl,hj,HCS,HSC,HVV,HCW⟩:=hrel
         have hzc:=HCW.out.size
         have HCWW:=hid (HB4.out.trans (HCW.out.mono (show w.heap.size≤g by omega)))
         have hAc:=beAtoms HI.out.2.1 HCWW.out hh
         obtain ⟨_,_,_,ra',rn',rc',_,d1',hr',_⟩:=atomsAt hAc hlt
         have hrr:wr.cell? ⟨b,off+i*2+1,none⟩=some (.slice ra rn rc):=by
          have hbg:b<g:=by
           obtain ⟨b',o',e,_,h2,_⟩:=HI.out.2.1.open (show 0<n by omega)
           simp only [Option.some.injEq,Addr.mk.injEq,and_true] at e
           omega
          rw [HCW.out.cell (p:=⟨b,off+i*2+1,none⟩) hbg,← HBW.out.cell (p:=⟨b,off+i*2+1,none⟩) hbg]
          exact d1
         rw [hrr] at d1'
         simp only [Option.some.injEq,Value.slice.injEq] at d1'
         obtain ⟨rfl,rfl,rfl⟩:=d1'
         clear hrr
         have HRC:=hid (And.intro hAc hr');clear hAc hr'
         by_cases hltj:j<rn
         ·obtain ⟨vb,vo,rfl,y0,_⟩:=intsAtB HRC.out.2 hltj
          have HX0:=hid (show ix (ax xs i).vs j=ix (ax xs i).vs j from rfl)
          obtain ⟨x,hx⟩:∃ x,ix (ax xs i).vs j=x:=⟨_,rfl⟩
          rw [hx] at y0
          have hw1:IntKind.i64.wrap ((m:Int) - 1)=(m:Int) - 1:=IntWalk.i64_in _ (by omega)
          by_cases h6:0≤x∧x≤(m:Int) - 1
          ·have hd6:decide (0≤x∧x≤(m:Int) - 1)=true:=by simpa using h6
           obtain ⟨q,rfl⟩:=Int.eq_ofNat_of_zero_le h6.1
           have hqm:q<m:=by omega
           have HSC2:=hid (HSC.out.step hqm hx)
           have HVV2:Hid (∀ q,q<j+1→0≤ix (ax xs i).vs q∧ix (ax xs i).vs q≤(m:Int) - 1):=hid (fun q' hq'=>by
            by_cases e:q'=j
            ·subst e;rw [hx];exact h6
            ·exact HVV.out q' (by omega))
           obtain ⟨u0,u1⟩:=HCS.out.cell hqm
           have HCS2:=hid (HCS.out.set q true)
           have HCW2:Hid (Below g w4 (wr.setCell ⟨g,q,none⟩ (.bool true))):=hid (Below.setCell HCW.out (Nat.le_refl _) _)
           have hqi:(q:Int)<(m:Int):=by omega
           have H6:=hid (And.intro h6 hx);clear h6 hx
           go_wp2_with fail
           refine (implWithin (q:Int) 0 ((m:Int) - 1) _).mono ?_
           rintro e w7 ⟨rfl,m7,rfl⟩
           rw [hd6]
           go_wp2_with fail
           go_roundw
           case rel=>exact ⟨j+1,_,by go_num,by omega,hid HCS2.out,HSC2,HVV2,hid (below_drewN HCW2.out _)⟩
           case measure=>simp [intOf];omega
          ·have hd6:decide (0≤x∧x≤(m:Int) - 1)=false:=by simpa using h6
           have HF:=hid (HFA.out (fun g=>h6 (by have:=g.2.2 j (by rw [HRL.out];exact hltj);rwa [hx] at this)))
           have H6:=hid (And.intro h6 hx);clear h6 hx
           go_wp2_with fail
           refine (implWithin x 0 ((m:Int) - 1) _).mono ?_
           rintro e w7 ⟨rfl,m7,rfl⟩
           rw [hd6]
           go_wp2_with fail
           go_ret
           exact ⟨by rw [HF.out];rfl,below_drewN HCWW.out _⟩
         ·have hjl:j=(ax xs i).vs.length:=by have:=HRL.out;omega
          have HSN2:Hid (SeenAll xs (i+1) 0 m cs):=hid (SeenAll.next (by have:=HSC.out;rwa [hjl] at this))
          have HAO2:Hid (∀ q,q<i+1→AtomOK m (ax xs q)):=hid (fun q hq=>by
           by_cases e:q=i
           ·subst e;exact ⟨HNB.out,by have:=HRL.out;have:=H5.out;omega,fun t ht=>HVV.out t (by omega)⟩
           ·exact HAO.out q (by omega))
          clear hjl
          go_wp2_with fail
          go_roundw
          case rel=>exact ⟨i+1,cs,by go_num,by omega,HCS,HSN2,HAO2,HCW⟩
          case measure=>simp [intOf];omega
       ·have hd5:decide ((1:Int)≤rn∧(rn:Int)≤5)=false:=by simpa using h5
        have HF:=hid (HFA.out (fun g=>h5 (by have g2:=g.2.1;have:=HRL.out;omega)))
        have H5:=hid h5;clear h5
        go_wp2_with fail
        refine (HNC.out _).mono ?_
        rintro e w5 ⟨rfl,hb5⟩
        have c50:w5.cell? ⟨wr.heap.size,0,none⟩=some (.string nm):=(by rw [(bcell hb5).1 _ _ (by first | omega | (simp;done) | (simp;omega))];first | with_reducible assumption | (go_simp;done) | assumption | (simp [World.cell?];done))
        have c51:w5.cell? ⟨wr.heap.size,1,none⟩=some (.slice ra rn rc):=(by rw [(bcell hb5).1 _ _ (by first | omega | (simp;done) | (simp;omega))];first | with_reducible assumption | (go_simp;done) | assumption | (simp [World.cell?];done))
        have HB5:=hid (Below.trans (B:=w.heap.size) (Below.trans HBWW.out belA) (hb5.mono leA));clear hb5
        go_wp2_with fail
        refine (implWithin (rn:Int) 1 5 _).mono ?_
        rintro e w6 ⟨rfl,m6,rfl⟩
        rw [hd5]
        go_wp2_with fail
        go_ret
        exact ⟨by rw [HF.out];rfl,below_drewN HB5.out _⟩
     ·have hin:i=xs.length:=by have:=HL.out.1;omega
      have HSE:Hid (SeenAll xs xs.length 0 m bs):=hid (by have:=HSN.out;rwa [hin] at this)
      have HAE:Hid (∀ j,j<xs.length→AtomOK m (ax xs j)):=hid (by have:=HAO.out;rwa [hin] at this)
      clear hin
      go_wp2_with fail
      go_loopw [69] (fun s wq=>∃ k:Nat,s=.int .i64 k∧k≤m∧Hid (∀ v,v<k→bx bs v=true)∧wq=wr) (fun s _=>m - (intOf s).toNat)
      case atStart=>exact ⟨0,rfl,by omega,hid (fun v hv=>by omega),rfl⟩
      case round =>
       obtain ⟨k,rfl,hk,HT,rfl⟩:=hrel
       by_cases hlt2:k<m
       ·obtain ⟨y0,_⟩:=HBS.out.cell hlt2
        obtain ⟨ub,hub⟩:∃ ub,bx bs k=ub:=⟨_,rfl⟩
        rw [hub] at y0
        cases ub with
        | true =>
         have HT2:Hid (∀ v,v<k+1→bx bs v=true):=hid (fun v hv=>by
          by_cases e:v=k
          ·subst e;exact hub
          ·exact HT.out v (by omega))
         clear hub
         go_wp2_with fail
         go_roundw
         case rel=>exact ⟨k+1,by go_num,by omega,HT2,by first | rfl | trivial⟩
         case measure=>simp [intOf];omega
        | false =>
         have HF:=hid (qOK_cov (us:=us) (HSE.out.nocov hlt2 hub))
         clear hub
         go_wp2_with fail
         go_ret
         exact ⟨by rw [HF.out];rfl,HBWW.out⟩
       ·have HF:=hid (qOK_yes HHD.out HST.out HAE.out (HSE.out.cov (fun v hv=>HT.out v (by omega))))
        go_wp2_with fail
        go_ret
        exact ⟨by rw [HF.out];rfl,HBWW.out⟩
  ·have hd2:decide ((1:Int)≤n∧(n:Int)≤4)=false:=by simpa using h2
   have HF:=hid (qOK_head (nv:=(m:Int)) (xs:=xs) (us:=us) (fun g=>h2 (by have:=g.2;have:=HL.out.1;omega)))
   have H12:=hid (And.intro h1 h2);clear h1 h2
   go_enter Tryd.func29,Tryd.ntmps29
   go_wp2_with fail
   refine (implWithin (m:Int) 1 5 _).mono ?_
   rintro e w1 ⟨rfl,m1,rfl⟩
   rw [hd1]
   go_wp2_with fail
   refine (implWithin (n:Int) 1 4 _).mono ?_
   rintro e w2 ⟨rfl,m2,rfl⟩
   rw [hd2]
   go_wp2_with fail
   go_ret
   exact ⟨by rw [HF.out];rfl,belA⟩
 ·have hd1:decide (1≤nv∧nv≤5)=false:=by simpa using h1
  have HF:=hid (qOK_head (xs:=xs) (us:=us) (fun g=>h1 g.1))
  go_enter Tryd.func29,Tryd.ntmps29
  go_wp2_with fail
  refine (implWithin nv 1 5 _).mono ?_
  rintro e w1 ⟨rfl,m1,rfl⟩
  rw [hd1]
  go_wp2_with fail
  go_ret
  exact ⟨by rw [HF.out];rfl,belA⟩
end Go.Proofs.YteiaofkgbdlpoaaDoor
