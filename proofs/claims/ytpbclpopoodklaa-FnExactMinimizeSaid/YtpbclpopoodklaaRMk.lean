/- Lemmas for the proof of FnExactMaximize, part 50 of 56: no condition of their own. -/
import Derived.Test.YtpbclpopoodklaaR14
namespace Go.Proofs.Ytpbclpopoodklaa
set_option linter.unusedSimpArgs false
set_option linter.unusedVariables false
open Go.RowKit
theorem RatsA.markedG {lo hi lo' hi':Nat} {w w':World} {a:Option Addr} {n c:Nat} {xs:List RatD} (h:RatsA true lo hi w a n c xs) (hm:MarkedG lo' hi' w w'):∃ ys,RatsA true lo hi w' a n c ys:=by
  by_cases hn:0<n
  · obtain ⟨b,off,rfl⟩:=ratsSome h hn
    have h0:=ratsAt h hn
    have each:∀ i,i<n→∃ y:RatD,I64 y.num∧I64 y.den∧w'.cell? ⟨b,off+i*2,none⟩=some (.int .i64 y.num)∧w'.cell? ⟨b,off+i*2+1,none⟩=some (.int .i64 y.den):=by
      intro i hi
      obtain ⟨_,_,g1,g2,g3,g4,_⟩:=ratsAt h hi
      obtain ⟨v1,e1,q1⟩:=hm.cell _ _ g3
      obtain ⟨v2,e2,q2⟩:=hm.cell _ _ g4
      have f1:∃ x,v1=.int .i64 x∧I64 x:=by
        rcases q1 with rfl | ⟨_,y,_,rfl,hy⟩
        · exact ⟨_,rfl,g1⟩
        · exact ⟨_,rfl,hy⟩
      have f2:∃ x,v2=.int .i64 x∧I64 x:=by
        rcases q2 with rfl | ⟨_,y,_,rfl,hy⟩
        · exact ⟨_,rfl,g2⟩
        · exact ⟨_,rfl,hy⟩
      obtain ⟨x1,rfl,y1⟩:=f1
      obtain ⟨x2,rfl,y2⟩:=f2
      exact ⟨⟨x1,x2⟩,y1,y2,e1,e2⟩
    haveI:Inhabited RatD:=⟨⟨0,0⟩⟩
    obtain ⟨y,hy⟩:=Deep.choose_lt each
    refine ⟨(List.range n).map y,ratsMk (by simp) h.2.1 h.2.2.1 h0.1 h0.2.1 fun i hi=>?_⟩
    have hq:qx ((List.range n).map y) i=y i:=by simp [qx,hi]
    obtain ⟨_,_,_,_,g3,g4,g5⟩:=ratsAt h hi
    obtain ⟨e1,e2,e3,e4⟩:=hy i hi
    rw [hq]
    exact ⟨e1,e2,e3,e4,fun hf=>by rw [hm.frz _ (by rw [g3];exact fun h=>(by cases h)),hm.frz _ (by rw [g4];exact fun h=>(by cases h))];exact g5 hf⟩
  · exact ⟨xs,h.1,h.2.1,h.2.2.1,fun h=>absurd h hn,h.2.2.2.2⟩
theorem cntLP_le (xs:List (List RatD)) (bs cs:List RatD):cntLP xs bs cs≤szLP xs bs cs*2:=by unfold cntLP szLP matSz;omega
set_option maxHeartbeats 1600000 in
theorem markK_LP {lo hi:Nat} (a:Option Addr) (n c:Nat) (xs:List (List RatD)) (ba:Option Addr) (bn bc:Nat) (bs:List RatD) (ca:Option Addr) (cn cc:Nat) (cs:List RatD) (k:Int) (w:World)
    (hI:LPA true lo hi w a n c xs ba bn bc bs ca cn cc cs) (hh:hi≤w.heap.size) (h0:0≤k) (h1:k≤1048576) (hs:szLP xs bs cs≤1048576) :
    Calls Try.prog 12 #[lpVal a n c ba bn bc ca cn cc,.int .i64 k] w (GivesMG lo hi w (k+(cntLP xs bs cs:Nat))):=by
  have hl1:=hI.1.len;have hl2:=hI.2.1.len;have hl3:=hI.2.2.len
  have hsz:matSz xs≤1048576∧mlens xs n+bn+cn≤1048576:=by unfold szLP at hs;rw [hl2,hl3] at hs;refine ⟨by omega,?_⟩;unfold matSz at hs;rw [hl1] at hs;omega
  have HE:Hid (k+2*(mlens xs n:Int)+2*bn+2*cn=k+(cntLP xs bs cs:Nat)):=hid (by unfold cntLP;rw [hl1,hl2,hl3];omega)
  have HSZ:=hid hsz.1
  have hsz2:=hsz.2
  clear hsz hs hl1 hl2 hl3
  have HI:=hid hI;clear hI
  go_enter Try.func12,Try.ntmps12
  go_wp2_with fail
  refine (markMat a n c xs k _ (beMat (B:=w.heap.size) HI.out.1 (by repeat (first | with_reducible assumption | with_reducible exact Below.refl _ _ | with_reducible refine below_drewN ?_ _ | with_reducible refine Below.al ?_ (by first | with_reducible exact Nat.le_refl _ | omega | (simp;done) | (simp;omega) | exact Nat.le_refl _) _ | with_reducible refine Below.setCell ?_ (by first | with_reducible exact Nat.le_refl _ | omega | (simp;done) | (simp;omega) | exact Nat.le_refl _) _ | assumption | exact Below.refl _ _ | refine below_drewN ?_ _ | refine Below.al ?_ (by first | with_reducible exact Nat.le_refl _ | omega | (simp;done) | (simp;omega) | exact Nat.le_refl _) _ | refine Below.setCell ?_ (by first | with_reducible exact Nat.le_refl _ | omega | (simp;done) | (simp;omega) | exact Nat.le_refl _) _)) hh) h0 (by omega) HSZ.out).mono ?_
  rintro e w1 ⟨rfl,hm1⟩
  have hmg1:MarkedG lo hi w w1:=(MarkedG.of_below (by repeat (first | with_reducible assumption | with_reducible exact Below.refl _ _ | with_reducible refine below_drewN ?_ _ | with_reducible refine Below.al ?_ (by first | with_reducible exact Nat.le_refl _ | omega | (simp;done) | (simp;omega) | exact Nat.le_refl _) _ | with_reducible refine Below.setCell ?_ (by first | with_reducible exact Nat.le_refl _ | omega | (simp;done) | (simp;omega) | exact Nat.le_refl _) _ | assumption | exact Below.refl _ _ | refine below_drewN ?_ _ | refine Below.al ?_ (by first | with_reducible exact Nat.le_refl _ | omega | (simp;done) | (simp;omega) | exact Nat.le_refl _) _ | refine Below.setCell ?_ (by first | with_reducible exact Nat.le_refl _ | omega | (simp;done) | (simp;omega) | exact Nat.le_refl _) _))).trans (.of_marked hm1)
  have hz1:w.heap.size<w1.heap.size:=by rw [hm1.size];simp
  have q1:w1.cell? ⟨w.heap.size,1,none⟩=some (.slice ba bn bc):=by rw [boxG (.of_marked hm1) _ (by simp) (by omega)];simp
  have q2:w1.cell? ⟨w.heap.size,2,none⟩=some (.slice ca cn cc):=by rw [boxG (.of_marked hm1) _ (by simp) (by omega)];simp
  obtain ⟨ys,hy⟩:=RatsA.markedG HI.out.2.1 hmg1
  have HM1:=hid hmg1;have HY:=hid hy;clear hmg1 hy hm1
  go_wp2_with fail
  refine (markRats ba bn bc ys (k+2*(mlens xs n:Int)) _ HY.out (by omega) (by omega) (by omega)).mono ?_
  rintro e w2 ⟨rfl,hm2,_⟩
  have q2':w2.cell? ⟨w.heap.size,2,none⟩=some (.slice ca cn cc):=by rw [boxG (.of_marked hm2) _ hz1 (by omega)];exact q2
  have hmg2:=HM1.out.trans (.of_marked hm2)
  obtain ⟨zs,hz⟩:=RatsA.markedG HI.out.2.2 hmg2
  have HM2:=hid hmg2;have HZ:=hid hz;clear hmg2 hz hm2 q1 q2
  go_wp2_with fail
  refine (markRats ca cn cc zs (k+2*(mlens xs n:Int)+2*bn) _ HZ.out (by omega) (by omega) (by omega)).mono ?_
  rintro e w3 ⟨rfl,hm3,_⟩
  have HM3:=hid (HM2.out.trans (.of_marked hm3));clear hm3
  go_wp2_with fail
  go_ret
  exact ⟨by rw [← HE.out];rfl,HM3.out⟩
end Go.Proofs.Ytpbclpopoodklaa
