/- Lemmas for the proof of FnExactMaximize, part 49 of 56: no condition of their own. -/
import Derived.Test.YtpbclpopoodklaaR8
import Derived.Test.YtpbclpopoodklaaSep
import Derived.Deep.Slices
namespace Go.Proofs.Ytpbclpopoodklaa
set_option linter.unusedSimpArgs false
set_option linter.unusedVariables false
open Go.RowKit
def mkRats (k:Int) (n:Nat):List RatD:=(List.range n).map fun (i:Nat)=>⟨k+2*(i:Int),k+2*(i:Int)+1⟩
theorem mkRats_len (k:Int) (n:Nat):(mkRats k n).length=n:=by simp [mkRats]
theorem mkRats_qx (k:Int) {n i:Nat} (h:i<n):qx (mkRats k n) i=⟨k+2*(i:Int),k+2*(i:Int)+1⟩:=by simp [qx,mkRats,h]
theorem RatsA.marked {lo hi lo' hi':Nat} {w w':World} {a:Option Addr} {n c:Nat} {xs:List RatD} (h:RatsA true lo hi w a n c xs) (hm:Marked lo' hi' w w'):∃ ys,RatsA true lo hi w' a n c ys:=by
  by_cases hn:0<n
  · obtain ⟨b,off,rfl⟩:=ratsSome h hn
    have h0:=ratsAt h hn
    have each:∀ i,i<n→∃ y:RatD,I64 y.num∧I64 y.den∧w'.cell? ⟨b,off+i*2,none⟩=some (.int .i64 y.num)∧w'.cell? ⟨b,off+i*2+1,none⟩=some (.int .i64 y.den):=by
      intro i hi
      obtain ⟨_,_,g1,g2,g3,g4,_⟩:=ratsAt h hi
      obtain ⟨v1,e1,q1⟩:=hm.cell _ _ g3
      obtain ⟨v2,e2,q2⟩:=hm.cell _ _ g4
      have f1:∃ x,v1=.int .i64 x∧I64 x:=by
        rcases q1 with rfl | ⟨_,y,_,rfl,hy⟩
        · exact ⟨_,rfl,g1⟩
        · exact ⟨_,rfl,hy⟩
      have f2:∃ x,v2=.int .i64 x∧I64 x:=by
        rcases q2 with rfl | ⟨_,y,_,rfl,hy⟩
        · exact ⟨_,rfl,g2⟩
        · exact ⟨_,rfl,hy⟩
      obtain ⟨x1,rfl,y1⟩:=f1
      obtain ⟨x2,rfl,y2⟩:=f2
      exact ⟨⟨x1,x2⟩,y1,y2,e1,e2⟩
    haveI:Inhabited RatD:=⟨⟨0,0⟩⟩
    obtain ⟨y,hy⟩:=Deep.choose_lt each
    refine ⟨(List.range n).map y,ratsMk (by simp) h.2.1 h.2.2.1 h0.1 h0.2.1 fun i hi=>?_⟩
    have hq:qx ((List.range n).map y) i=y i:=by simp [qx,hi]
    obtain ⟨_,_,_,_,g3,g4,g5⟩:=ratsAt h hi
    obtain ⟨e1,e2,e3,e4⟩:=hy i hi
    rw [hq]
    exact ⟨e1,e2,e3,e4,fun hf=>by rw [hm.frz,hm.frz];exact g5 hf⟩
  · exact ⟨xs,h.1,h.2.1,h.2.2.1,fun h=>absurd h hn,h.2.2.2.2⟩
def GivesMarkR (lo hi:Nat) (w:World) (r:Int) (a:Option Addr) (n c:Nat) (ys:List RatD) (e:Ending) (w':World):Prop:=e=.returned (.int .i64 r)∧Marked lo hi w w'∧RatsA true lo hi w' a n c ys
set_option maxHeartbeats 1600000 in
theorem markRats {lo hi:Nat} (a:Option Addr) (n c:Nat) (xs:List RatD) (k:Int) (w:World) (hI:RatsA true lo hi w a n c xs) (h0:0≤k) (h1:k≤4194304) (hn:n≤1048576) :
    Calls Try.prog 19 #[.slice a n c,.int .i64 k] w (GivesMarkR lo hi w (k+2*n) a n c (mkRats k n)):=by
  have hs:=hI.small
  by_cases hn0:0<n
  · obtain ⟨b,off,rfl⟩:=ratsSome hI hn0
    have hlo:=(ratsAt hI hn0).1
    have hhi:=(ratsAt hI hn0).2.1
    have HI:=hid hI;clear hI
    go_enter Try.func19,Try.ntmps19
    go_wp2
    go_loopw [1,5] (fun q i wr=>∃ (j:Nat) (t:Int),i=.int .i64 j∧q=.int .i64 t∧t=k+2*j∧j≤n∧Hid (Marked lo hi w wr∧∀ i,i<j→wr.cell? ⟨b,off+i*2,none⟩=some (.int .i64 (k+2*i))∧wr.cell? ⟨b,off+i*2+1,none⟩=some (.int .i64 (k+2*i+1)))) (fun _ i _=>n - (intOf i).toNat)
    case atStart=>exact ⟨0,_,rfl,rfl,by omega,by omega,hid ⟨Marked.refl _ _ _,fun i hi=>by omega⟩⟩
    case round =>
      obtain ⟨j,t,rfl,rfl,ht,hj,HM⟩:=hrel
      have ht1:0≤t:=by omega
      have ht2:t≤7340032:=by omega
      have HT:=hid ht;clear ht
      by_cases hlt:j<n
      · obtain ⟨_,_,g1,g2,g3,g4,g5⟩:=ratsAt HI.out hlt
        obtain ⟨v0,e0,q0⟩:=HM.out.1.cell _ _ g3
        obtain ⟨v1,e1,q1⟩:=HM.out.1.cell _ _ g4
        obtain ⟨y0,rfl⟩:∃ y,v0=.int .i64 y:=by
          rcases q0 with rfl | ⟨_,y,_,rfl,_⟩ <;> exact ⟨_,rfl⟩
        obtain ⟨y1,rfl⟩:∃ y,v1=.int .i64 y:=by
          rcases q1 with rfl | ⟨_,y,_,rfl,_⟩ <;> exact ⟨_,rfl⟩
        have hf0:wr.frozen? ⟨b,off+j*2,none⟩=false:=by rw [HM.out.1.frz];exact (g5 rfl).1
        have hf1:wr.frozen? ⟨b,off+j*2+1,none⟩=false:=by rw [HM.out.1.frz];exact (g5 rfl).2
        have hne:(⟨b,off+j*2,none⟩:Addr) ≠ ⟨b,off+j*2+1,none⟩:=by intro h;simp only [Addr.mk.injEq] at h;omega
        have hm1:=marked_set (lo:=lo) (hi:=hi) (x':=t) e0 hlo hhi (by unfold I64;omega)
        have e1':(wr.setCell ⟨b,off+j*2,none⟩ (.int .i64 t)).cell? ⟨b,off+j*2+1,none⟩=some (.int .i64 y1):=by rw [cset_other hne];exact e1
        have hm2:=marked_set (lo:=lo) (hi:=hi) (x':=t+1) e1' hlo hhi (by unfold I64;omega)
        have HMS:=hid (HM.out.1.trans (hm1.trans hm2))
        have HE:=hid (And.intro e0 (And.intro e1' hne))
        clear hm1 hm2 q0 q1 g1 g2 g3 g4 g5 hne
        go_wp2
        go_roundw
        case rel=>exact ⟨j+1,_,by go_num,rfl,by have:=HT.out;omega,by omega,hid ⟨HMS.out,fun i hi=>by
          by_cases e:i=j
          · subst e
            refine ⟨?_,?_⟩
            · rw [cset_other HE.out.2.2.symm,cset_same HE.out.1,HT.out]
            · rw [cset_same HE.out.2.1,HT.out]
          · obtain ⟨f1,f2⟩:=HM.out.2 i (by omega)
            refine ⟨?_,?_⟩
            · rw [cset_other (by intro h;simp only [Addr.mk.injEq] at h;omega),cset_other (by intro h;simp only [Addr.mk.injEq] at h;omega)];exact f1
            · rw [cset_other (by intro h;simp only [Addr.mk.injEq] at h;omega),cset_other (by intro h;simp only [Addr.mk.injEq] at h;omega)];exact f2⟩⟩
        case measure=>simp [intOf];omega
      · go_wp2
        go_ret
        obtain rfl:j=n:=by omega
        refine ⟨ret_int (by have:=HT.out;omega),HM.out.1,ratsMk (mkRats_len _ _) HI.out.2.1 HI.out.2.2.1 hlo hhi fun i hi=>?_⟩
        obtain ⟨_,_,_,_,_,_,g5⟩:=ratsAt HI.out hi
        rw [mkRats_qx k hi]
        obtain ⟨f1,f2⟩:=HM.out.2 i hi
        exact ⟨by unfold I64;dsimp only;omega,by unfold I64;dsimp only;omega,f1,f2,fun hf=>by rw [HM.out.1.frz,HM.out.1.frz];exact g5 hf⟩
  · have hn0':n≤0:=by omega
    have HI:=hid hI;clear hI
    go_enter Try.func19,Try.ntmps19
    go_wp2
    go_loopw [1,5] (fun q i wr=>i=.int .i64 0∧q=.int .i64 k∧wr=w) (fun _ i _=>n - (intOf i).toNat)
    case atStart=>exact ⟨rfl,rfl,rfl⟩
    case round =>
      obtain ⟨rfl,rfl,rfl⟩:=hrel
      go_wp2
      go_ret
      have hx:=HI.out
      obtain rfl:n=0:=by omega
      exact ⟨ret_int (by omega),Marked.refl _ _ _,rfl,hx.2.1,hx.2.2.1,(fun h=>by omega),hx.2.2.2.2⟩
set_option maxHeartbeats 800000 in
theorem heldRats {fz:Bool} {lo hi:Nat} (a:Option Addr) (n c:Nat) (k:Int) (w:World) (hI:RatsA fz lo hi w a n c (mkRats k n)) (h0:0≤k) (h1:k≤4194304) (hn:n≤1048576) :
    Calls Try.prog 20 #[.slice a n c,.int .i64 k] w (Gives w (.int .i64 (k+2*n))):=by
  have hs:=hI.small
  have HI:=hid hI
  go_enter Try.func20,Try.ntmps20
  go_wp2
  go_loopw [1,5] (fun q i wr=>∃ (j:Nat) (t:Int),i=.int .i64 j∧q=.int .i64 t∧t=k+2*j∧j≤n∧∃ m,wr=w.drewN m) (fun _ i _=>n - (intOf i).toNat)
  case atStart=>exact ⟨0,_,rfl,rfl,by omega,by omega,0,rfl⟩
  case round =>
    obtain ⟨j,t,rfl,rfl,ht,hj,m,rfl⟩:=hrel
    have ht1:0≤t:=by omega
    have ht2:t≤7340032:=by omega
    by_cases hlt:j<n
    · obtain ⟨b,off,rfl⟩:=ratsSome HI.out (by omega)
      obtain ⟨_,_,_,_,d0,d1,_⟩:=ratsAt HI.out hlt
      rw [mkRats_qx k hlt] at d0 d1
      dsimp only at d0 d1
      rw [← ht] at d0 d1
      have HT:=hid ht;clear ht hI
      have hb:(t != t)=false:=by simp
      have hb1:(t+1 != t+1)=false:=by simp
      go_wp2
      go_roundw
      case rel=>exact ⟨j+1,_,by go_num,rfl,by have:=HT.out;omega,by omega,by first | exact ⟨_,rfl⟩ | exact ⟨_,dd⟩⟩
      case measure=>simp [intOf];omega
    · have HT:=hid ht;clear ht
      go_wp2
      go_ret
      exact ⟨ret_int (by have:=HT.out;omega),by first | exact ⟨_,rfl⟩ | exact ⟨_,dd⟩⟩
def ratsQ:RowP (List RatD):=fun lo hi w a n c xs=>RatsA true lo hi w a n c xs
abbrev MatS:=SepA ratsQ
theorem MatS.mat {lo hi:Nat} {w:World} {a:Option Addr} {n c:Nat} {xss:List (List RatD)} (h:MatS lo hi w a n c xss):MatA true lo hi w a n c xss:=SepA.sl (R:=matR) (fun {lo hi w ra rn rc x} h=>⟨ra,rn,rc,rfl,h⟩) matRep h
def GivesM2 (lo hi:Nat) (w:World) (r:Int) (e:Ending) (w':World):Prop:=e=.returned (.int .i64 r)∧Marked lo hi w w'
set_option maxHeartbeats 1600000 in
theorem markMat {lo hi:Nat} (a:Option Addr) (n c:Nat) (xss:List (List RatD)) (k:Int) (w:World) (hI:MatA true lo hi w a n c xss) (h0:0≤k) (h1:k≤2097152) (hsz:matSz xss≤1048576) :
    Calls Try.prog 13 #[.slice a n c,.int .i64 k] w (GivesM2 lo hi w (k+2*mlens xss n)):=by
  have hl:=hI.len
  have hs:=hI.small
  have hsum:mlens xss xss.length≤1048576:=by unfold matSz at hsz;omega
  have HL:=hid hl;clear hl
  have HS:=hid hsum;clear hsum hsz
  go_enter Try.func13,Try.ntmps13
  go_wp2
  go_loopw [1,5] (fun q i wr=>∃ (j:Nat) (t:Int),i=.int .i64 j∧q=.int .i64 t∧t=k+2*mlens xss j∧j≤n∧Hid (Marked lo hi w wr)) (fun _ i _=>n - (intOf i).toNat)
  case atStart=>exact ⟨0,_,rfl,rfl,by simp [mlens],by omega,hid (Marked.refl _ _ _)⟩
  case round =>
    obtain ⟨j,t,rfl,rfl,ht,hj,HM⟩:=hrel
    have hlj:mlens xss j≤1048576:=Nat.le_trans (mlens_mono (by rw [HL.out];exact hj)) HS.out
    have ht1:0≤t:=by omega
    have ht2:t≤4194304:=by omega
    have HT:=hid ht;clear ht hlj
    by_cases hlt:j<n
    · obtain ⟨b,off,rfl⟩:=matSome hI (by omega)
      obtain ⟨_,_,ra,rn,rc,hc,hr,_⟩:=matAt hI hlt
      obtain ⟨v',hv,hcm⟩:=HM.out.cell _ _ hc
      obtain rfl:v'=.slice ra rn rc:=by
        rcases hcm with h | ⟨_,_,h,_⟩
        · exact h
        · cases h
      obtain ⟨ys,hy⟩:=hr.marked HM.out
      have hrl:(mx xss j).length=rn:=hr.len
      have hrn2:rn≤1048576:=by have h2:=mlens_mono (xss:=xss) (i:=j+1) (k:=xss.length) (by rw [HL.out];omega);have h3:=HS.out;simp only [mlens] at h2;omega
      have HR:=hid hrl
      have HY:=hid hy
      clear hc hcm hr hy hrl
      go_wp2_with fail
      refine (markRats ra rn rc ys t wr HY.out ht1 ht2 hrn2).mono ?_
      rintro e w1 ⟨rfl,hm1,_⟩
      have HM1:=hid (HM.out.trans hm1);clear hm1
      go_wp2
      go_roundw
      case rel=>exact ⟨j+1,_,by go_num,rfl,by have h1:=HT.out;have h2:=HR.out;simp only [mlens];omega,by omega,HM1⟩
      case measure=>simp [intOf];omega
    · go_wp2
      go_ret
      obtain rfl:j=n:=by omega
      exact ⟨ret_int HT.out,HM.out⟩
end Go.Proofs.Ytpbclpopoodklaa
