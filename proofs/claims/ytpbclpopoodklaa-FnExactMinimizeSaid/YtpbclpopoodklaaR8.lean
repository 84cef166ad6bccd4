/- Lemmas for the proof of FnExactMaximize, part 46 of 56: no condition of their own. -/
import Derived.Test.YtpbclpopoodklaaR7
namespace Go.Proofs.Ytpbclpopoodklaa
set_option linter.unusedSimpArgs false
set_option linter.unusedVariables false
open Go.RowKit
abbrev lpVal (a:Option Addr) (n:Nat) (c:Nat) (ba:Option Addr) (bn:Nat) (bc:Nat) (ca:Option Addr) (cn:Nat) (cc:Nat):Value:=.agg #[.slice a n c,.slice ba bn bc,.slice ca cn cc]
def LPA (fz:Bool) (lo hi:Nat) (w:World) (a:Option Addr) (n:Nat) (c:Nat) (xs:List (List RatD)) (ba:Option Addr) (bn:Nat) (bc:Nat) (bs:List RatD) (ca:Option Addr) (cn:Nat) (cc:Nat) (cs:List RatD):Prop:=MatA fz (lo) hi w a n c xs∧RatsA fz (lo) hi w ba bn bc bs∧RatsA fz (lo) hi w ca cn cc cs
theorem beLP {fz:Bool} {lo hi B:Nat} {w w':World} {a:Option Addr} {n:Nat} {c:Nat} {xs:List (List RatD)} {ba:Option Addr} {bn:Nat} {bc:Nat} {bs:List RatD} {ca:Option Addr} {cn:Nat} {cc:Nat} {cs:List RatD} (h:LPA fz lo hi w a n c xs ba bn bc bs ca cn cc cs) (hb:Below B w w') (hh:hi≤B):LPA fz lo hi w' a n c xs ba bn bc bs ca cn cc cs:=⟨beMat h.1 hb hh,beRats h.2.1 hb hh,beRats h.2.2 hb hh⟩
theorem kpLP {fz:Bool} {lo hi:Nat} {w w':World} {a:Option Addr} {n:Nat} {c:Nat} {xs:List (List RatD)} {ba:Option Addr} {bn:Nat} {bc:Nat} {bs:List RatD} {ca:Option Addr} {cn:Nat} {cc:Nat} {cs:List RatD} (h:LPA fz lo hi w a n c xs ba bn bc bs ca cn cc cs) (hb:Keeps lo hi w w'):LPA fz lo hi w' a n c xs ba bn bc bs ca cn cc cs:=⟨kpMat h.1 hb,kpRats h.2.1 hb,kpRats h.2.2 hb⟩
theorem wdLP {fz:Bool} {lo hi lo':Nat} {w:World} {a:Option Addr} {n:Nat} {c:Nat} {xs:List (List RatD)} {ba:Option Addr} {bn:Nat} {bc:Nat} {bs:List RatD} {ca:Option Addr} {cn:Nat} {cc:Nat} {cs:List RatD} (h:LPA fz lo hi w a n c xs ba bn bc bs ca cn cc cs) (hl:lo'≤lo):LPA fz lo' hi w a n c xs ba bn bc bs ca cn cc cs:=⟨wdMat h.1 hl,wdRats h.2.1 hl,wdRats h.2.2 hl⟩
def szLP (xs:List (List RatD)) (bs:List RatD) (cs:List RatD):Nat:=matSz xs+bs.length+cs.length
set_option maxHeartbeats 1600000 in
theorem szK_LP {fz:Bool} {lo hi:Nat} (a:Option Addr) (n:Nat) (c:Nat) (xs:List (List RatD)) (ba:Option Addr) (bn:Nat) (bc:Nat) (bs:List RatD) (ca:Option Addr) (cn:Nat) (cc:Nat) (cs:List RatD) (left:Int) (w:World) (hI:LPA fz lo hi w a n c xs ba bn bc bs ca cn cc cs) (hh:hi≤w.heap.size) (h0:0≤left) (h1:left≤1048576) :
    Calls Try.prog 6 #[lpVal a n c ba bn bc ca cn cc,.int .i64 left] w (Leaves w (.int .i64 (szI (szLP xs bs cs) left))):=by
  have DF0:=hid hI.1
  have DF1:=hid hI.2.1
  have DF2:=hid hI.2.2
  clear hI
  go_enter Try.func6,Try.ntmps6
  go_wp2_with fail
  refine (szMat a n c xs left _ (beMat (B:=w.heap.size) DF0.out (by repeat (first | with_reducible assumption | with_reducible exact Below.refl _ _ | with_reducible refine below_drewN ?_ _ | with_reducible refine Below.al ?_ (by first | with_reducible exact Nat.le_refl _ | omega | (simp;done) | (simp;omega) | exact Nat.le_refl _) _ | with_reducible refine Below.setCell ?_ (by first | with_reducible exact Nat.le_refl _ | omega | (simp;done) | (simp;omega) | exact Nat.le_refl _) _ | assumption | exact Below.refl _ _ | refine below_drewN ?_ _ | refine Below.al ?_ (by first | with_reducible exact Nat.le_refl _ | omega | (simp;done) | (simp;omega) | exact Nat.le_refl _) _ | refine Below.setCell ?_ (by first | with_reducible exact Nat.le_refl _ | omega | (simp;done) | (simp;omega) | exact Nat.le_refl _) _)) (by first | with_reducible exact Nat.le_refl _ | omega | (simp;done) | (simp;omega) | exact Nat.le_refl _)) (by omega) (by omega)).mono ?_
  rintro e u1 hg;obtain ⟨rfl,hb⟩:=Gives.leaves hg;clear hg
  have hc:Below w.heap.size w u1:=Below.trans (by repeat (first | with_reducible assumption | with_reducible exact Below.refl _ _ | with_reducible refine below_drewN ?_ _ | with_reducible refine Below.al ?_ (by first | with_reducible exact Nat.le_refl _ | omega | (simp;done) | (simp;omega) | exact Nat.le_refl _) _ | with_reducible refine Below.setCell ?_ (by first | with_reducible exact Nat.le_refl _ | omega | (simp;done) | (simp;omega) | exact Nat.le_refl _) _ | assumption | exact Below.refl _ _ | refine below_drewN ?_ _ | refine Below.al ?_ (by first | with_reducible exact Nat.le_refl _ | omega | (simp;done) | (simp;omega) | exact Nat.le_refl _) _ | refine Below.setCell ?_ (by first | with_reducible exact Nat.le_refl _ | omega | (simp;done) | (simp;omega) | exact Nat.le_refl _) _)) (hb.mono (by first | with_reducible exact Nat.le_refl _ | omega | (simp;done) | (simp;omega) | exact Nat.le_refl _))
  have z1:w.heap.size≤u1.heap.size:=hc.size
  have B0c0:u1.cell? ⟨w.heap.size,0,none⟩=some (.slice a n c):=(by rw [(bcell hb).1 _ _ (by first | omega | (simp;done) | (simp;omega))];first | with_reducible assumption | (go_simp;done) | assumption | (simp [World.cell?];done))
  have B0c1:u1.cell? ⟨w.heap.size,1,none⟩=some (.slice ba bn bc):=(by rw [(bcell hb).1 _ _ (by first | omega | (simp;done) | (simp;omega))];first | with_reducible assumption | (go_simp;done) | assumption | (simp [World.cell?];done))
  have B0c2:u1.cell? ⟨w.heap.size,2,none⟩=some (.slice ca cn cc):=(by rw [(bcell hb).1 _ _ (by first | omega | (simp;done) | (simp;omega))];first | with_reducible assumption | (go_simp;done) | assumption | (simp [World.cell?];done))
  have B0p:w.heap.size<u1.heap.size:=World.block_lt_of_cell? _ _ B0c0
  have B0s:w.heap.size<u1.heap.size:=B0p
  replace DF0:Hid (MatA fz (lo) hi u1 a n c xs):=hid (beMat DF0.out hc (by omega))
  replace DF1:Hid (RatsA fz (lo) hi u1 ba bn bc bs):=hid (beRats DF1.out hc (by omega))
  replace DF2:Hid (RatsA fz (lo) hi u1 ca cn cc cs):=hid (beRats DF2.out hc (by omega))
  have HW:=hid hc
  clear hb hc
  by_cases hsz0:(matSz xs:Int)≤left
  · rw [szI_yes hsz0]
    obtain ⟨left0,hleft0⟩:∃ l,l=left - (matSz xs:Int):=⟨_,rfl⟩
    rw [← hleft0]
    have hlo0:0≤left0:=by omega
    have hhi0:left0≤1048576:=by omega
    have HQ0:=hid (And.intro hsz0 hleft0);clear hsz0 hleft0
    go_wp2_with fail
    refine (szRats ba bn bc bs left0 _ (beRats (B:=u1.heap.size) DF1.out (by repeat (first | with_reducible assumption | with_reducible exact Below.refl _ _ | with_reducible refine below_drewN ?_ _ | with_reducible refine Below.al ?_ (by first | with_reducible exact Nat.le_refl _ | omega | (simp;done) | (simp;omega) | exact Nat.le_refl _) _ | with_reducible refine Below.setCell ?_ (by first | with_reducible exact Nat.le_refl _ | omega | (simp;done) | (simp;omega) | exact Nat.le_refl _) _ | assumption | exact Below.refl _ _ | refine below_drewN ?_ _ | refine Below.al ?_ (by first | with_reducible exact Nat.le_refl _ | omega | (simp;done) | (simp;omega) | exact Nat.le_refl _) _ | refine Below.setCell ?_ (by first | with_reducible exact Nat.le_refl _ | omega | (simp;done) | (simp;omega) | exact Nat.le_refl _) _)) (by first | with_reducible exact Nat.le_refl _ | omega | (simp;done) | (simp;omega) | exact Nat.le_refl _)) (by omega) (by omega)).mono ?_
    rintro e u2 hg;obtain ⟨rfl,hb⟩:=Gives.leaves hg;clear hg
    have hc:Below u1.heap.size u1 u2:=Below.trans (by repeat (first | with_reducible assumption | with_reducible exact Below.refl _ _ | with_reducible refine below_drewN ?_ _ | with_reducible refine Below.al ?_ (by first | with_reducible exact Nat.le_refl _ | omega | (simp;done) | (simp;omega) | exact Nat.le_refl _) _ | with_reducible refine Below.setCell ?_ (by first | with_reducible exact Nat.le_refl _ | omega | (simp;done) | (simp;omega) | exact Nat.le_refl _) _ | assumption | exact Below.refl _ _ | refine below_drewN ?_ _ | refine Below.al ?_ (by first | with_reducible exact Nat.le_refl _ | omega | (simp;done) | (simp;omega) | exact Nat.le_refl _) _ | refine Below.setCell ?_ (by first | with_reducible exact Nat.le_refl _ | omega | (simp;done) | (simp;omega) | exact Nat.le_refl _) _)) (hb.mono (by first | with_reducible exact Nat.le_refl _ | omega | (simp;done) | (simp;omega) | exact Nat.le_refl _))
    have z2:u1.heap.size≤u2.heap.size:=hc.size
    replace B0c0:u2.cell? ⟨w.heap.size,0,none⟩=some (.slice a n c):=(by rw [(bcell hc).1 _ _ B0s];exact B0c0)
    replace B0c1:u2.cell? ⟨w.heap.size,1,none⟩=some (.slice ba bn bc):=(by rw [(bcell hc).1 _ _ B0s];exact B0c1)
    replace B0c2:u2.cell? ⟨w.heap.size,2,none⟩=some (.slice ca cn cc):=(by rw [(bcell hc).1 _ _ B0s];exact B0c2)
    replace B0s:w.heap.size<u2.heap.size:=(by omega)
    replace DF0:Hid (MatA fz (lo) hi u2 a n c xs):=hid (beMat DF0.out hc (by omega))
    replace DF1:Hid (RatsA fz (lo) hi u2 ba bn bc bs):=hid (beRats DF1.out hc (by omega))
    replace DF2:Hid (RatsA fz (lo) hi u2 ca cn cc cs):=hid (beRats DF2.out hc (by omega))
    replace HW:Hid (Below w.heap.size w u2):=hid (Below.calm HW.out hc)
    clear hb hc
    by_cases hsz1:(bs.length:Int)≤left0
    · rw [szI_yes hsz1]
      obtain ⟨left1,hleft1⟩:∃ l,l=left0 - (bs.length:Int):=⟨_,rfl⟩
      rw [← hleft1]
      have hlo1:0≤left1:=by omega
      have hhi1:left1≤1048576:=by omega
      have HQ1:=hid (And.intro hsz1 hleft1);clear hsz1 hleft1
      go_wp2_with fail
      refine (szRats ca cn cc cs left1 _ (beRats (B:=u2.heap.size) DF2.out (by repeat (first | with_reducible assumption | with_reducible exact Below.refl _ _ | with_reducible refine below_drewN ?_ _ | with_reducible refine Below.al ?_ (by first | with_reducible exact Nat.le_refl _ | omega | (simp;done) | (simp;omega) | exact Nat.le_refl _) _ | with_reducible refine Below.setCell ?_ (by first | with_reducible exact Nat.le_refl _ | omega | (simp;done) | (simp;omega) | exact Nat.le_refl _) _ | assumption | exact Below.refl _ _ | refine below_drewN ?_ _ | refine Below.al ?_ (by first | with_reducible exact Nat.le_refl _ | omega | (simp;done) | (simp;omega) | exact Nat.le_refl _) _ | refine Below.setCell ?_ (by first | with_reducible exact Nat.le_refl _ | omega | (simp;done) | (simp;omega) | exact Nat.le_refl _) _)) (by first | with_reducible exact Nat.le_refl _ | omega | (simp;done) | (simp;omega) | exact Nat.le_refl _)) (by omega) (by omega)).mono ?_
      rintro e u3 hg;obtain ⟨rfl,hb⟩:=Gives.leaves hg;clear hg
      have hc:Below u2.heap.size u2 u3:=Below.trans (by repeat (first | with_reducible assumption | with_reducible exact Below.refl _ _ | with_reducible refine below_drewN ?_ _ | with_reducible refine Below.al ?_ (by first | with_reducible exact Nat.le_refl _ | omega | (simp;done) | (simp;omega) | exact Nat.le_refl _) _ | with_reducible refine Below.setCell ?_ (by first | with_reducible exact Nat.le_refl _ | omega | (simp;done) | (simp;omega) | exact Nat.le_refl _) _ | assumption | exact Below.refl _ _ | refine below_drewN ?_ _ | refine Below.al ?_ (by first | with_reducible exact Nat.le_refl _ | omega | (simp;done) | (simp;omega) | exact Nat.le_refl _) _ | refine Below.setCell ?_ (by first | with_reducible exact Nat.le_refl _ | omega | (simp;done) | (simp;omega) | exact Nat.le_refl _) _)) (hb.mono (by first | with_reducible exact Nat.le_refl _ | omega | (simp;done) | (simp;omega) | exact Nat.le_refl _))
      have z3:u2.heap.size≤u3.heap.size:=hc.size
      replace B0c0:u3.cell? ⟨w.heap.size,0,none⟩=some (.slice a n c):=(by rw [(bcell hc).1 _ _ B0s];exact B0c0)
      replace B0c1:u3.cell? ⟨w.heap.size,1,none⟩=some (.slice ba bn bc):=(by rw [(bcell hc).1 _ _ B0s];exact B0c1)
      replace B0c2:u3.cell? ⟨w.heap.size,2,none⟩=some (.slice ca cn cc):=(by rw [(bcell hc).1 _ _ B0s];exact B0c2)
      replace B0s:w.heap.size<u3.heap.size:=(by omega)
      replace DF0:Hid (MatA fz (lo) hi u3 a n c xs):=hid (beMat DF0.out hc (by omega))
      replace DF1:Hid (RatsA fz (lo) hi u3 ba bn bc bs):=hid (beRats DF1.out hc (by omega))
      replace DF2:Hid (RatsA fz (lo) hi u3 ca cn cc cs):=hid (beRats DF2.out hc (by omega))
      replace HW:Hid (Below w.heap.size w u3):=hid (Below.calm HW.out hc)
      clear hb hc
      by_cases hsz2:(cs.length:Int)≤left1
      · rw [szI_yes hsz2]
        obtain ⟨left2,hleft2⟩:∃ l,l=left1 - (cs.length:Int):=⟨_,rfl⟩
        rw [← hleft2]
        have hlo2:0≤left2:=by omega
        have hhi2:left2≤1048576:=by omega
        have HQ2:=hid (And.intro hsz2 hleft2);clear hsz2 hleft2
        have HE:Hid (szI (szLP xs bs cs) left=left2):=hid (by have g0:=HQ0.out;have g1:=HQ1.out;have g2:=HQ2.out;rw [szI_yes (by unfold szLP;omega)];unfold szLP;omega)
        go_wp2_with fail
        go_ret
        exact ⟨by rw [HE.out];rfl,HW.out⟩
      · rw [szI_no hsz2]
        have HQ2:=hid (szI_no (n:=szLP xs bs cs) (left:=left) (by unfold szLP;have:=HQ0.out.2;have:=HQ1.out.2;omega));clear hsz2
        go_wp2_with fail
        go_ret
        exact ⟨by rw [HQ2.out];rfl,HW.out⟩
    · rw [szI_no hsz1]
      have HQ1:=hid (szI_no (n:=szLP xs bs cs) (left:=left) (by unfold szLP;have:=HQ0.out.2;omega));clear hsz1
      go_wp2_with fail
      go_ret
      exact ⟨by rw [HQ1.out];rfl,HW.out⟩
  · rw [szI_no hsz0]
    have HQ0:=hid (szI_no (n:=szLP xs bs cs) (left:=left) (by unfold szLP;  omega));clear hsz0
    go_wp2_with fail
    go_ret
    exact ⟨by rw [HQ0.out];rfl,HW.out⟩
set_option maxHeartbeats 1600000 in
theorem eqK_LP {fz fz':Bool} {lo hi lo' hi':Nat} (a:Option Addr) (n:Nat) (c:Nat) (xs:List (List RatD)) (ba:Option Addr) (bn:Nat) (bc:Nat) (bs:List RatD) (ca:Option Addr) (cn:Nat) (cc:Nat) (cs:List RatD) (a_:Option Addr) (n_:Nat) (c_:Nat) (ba_:Option Addr) (bn_:Nat) (bc_:Nat) (ca_:Option Addr) (cn_:Nat) (cc_:Nat) (w:World) (hI:LPA fz lo hi w a n c xs ba bn bc bs ca cn cc cs) (hh:hi≤w.heap.size) (hJ:LPA fz' lo' hi' w a_ n_ c_ xs ba_ bn_ bc_ bs ca_ cn_ cc_ cs) (hh':hi'≤w.heap.size) :
    Calls Try.prog 11 #[lpVal a n c ba bn bc ca cn cc,lpVal a_ n_ c_ ba_ bn_ bc_ ca_ cn_ cc_] w (Leaves w (.bool true)):=by
  have DF0:=hid hI.1
  have DG0:=hid hJ.1
  have DF1:=hid hI.2.1
  have DG1:=hid hJ.2.1
  have DF2:=hid hI.2.2
  have DG2:=hid hJ.2.2
  clear hI hJ
  go_enter Try.func11,Try.ntmps11
  go_wp2_with fail
  refine (eqMat a a_ n c n_ c_ xs _ (beMat (B:=w.heap.size) DF0.out (by repeat (first | with_reducible assumption | with_reducible exact Below.refl _ _ | with_reducible refine below_drewN ?_ _ | with_reducible refine Below.al ?_ (by first | with_reducible exact Nat.le_refl _ | omega | (simp;done) | (simp;omega) | exact Nat.le_refl _) _ | with_reducible refine Below.setCell ?_ (by first | with_reducible exact Nat.le_refl _ | omega | (simp;done) | (simp;omega) | exact Nat.le_refl _) _ | assumption | exact Below.refl _ _ | refine below_drewN ?_ _ | refine Below.al ?_ (by first | with_reducible exact Nat.le_refl _ | omega | (simp;done) | (simp;omega) | exact Nat.le_refl _) _ | refine Below.setCell ?_ (by first | with_reducible exact Nat.le_refl _ | omega | (simp;done) | (simp;omega) | exact Nat.le_refl _) _)) (by first | with_reducible exact Nat.le_refl _ | omega | (simp;done) | (simp;omega) | exact Nat.le_refl _)) (by first | with_reducible exact Nat.le_refl _ | omega | (simp;done) | (simp;omega) | exact Nat.le_refl _) (beMat (B:=w.heap.size) DG0.out (by repeat (first | with_reducible assumption | with_reducible exact Below.refl _ _ | with_reducible refine below_drewN ?_ _ | with_reducible refine Below.al ?_ (by first | with_reducible exact Nat.le_refl _ | omega | (simp;done) | (simp;omega) | exact Nat.le_refl _) _ | with_reducible refine Below.setCell ?_ (by first | with_reducible exact Nat.le_refl _ | omega | (simp;done) | (simp;omega) | exact Nat.le_refl _) _ | assumption | exact Below.refl _ _ | refine below_drewN ?_ _ | refine Below.al ?_ (by first | with_reducible exact Nat.le_refl _ | omega | (simp;done) | (simp;omega) | exact Nat.le_refl _) _ | refine Below.setCell ?_ (by first | with_reducible exact Nat.le_refl _ | omega | (simp;done) | (simp;omega) | exact Nat.le_refl _) _)) (by first | with_reducible exact Nat.le_refl _ | omega | (simp;done) | (simp;omega) | exact Nat.le_refl _)) (by first | with_reducible exact Nat.le_refl _ | omega | (simp;done) | (simp;omega) | exact Nat.le_refl _)).mono ?_
  rintro e u1 ⟨rfl,hb⟩
  have hc:Below w.heap.size w u1:=Below.trans (by repeat (first | with_reducible assumption | with_reducible exact Below.refl _ _ | with_reducible refine below_drewN ?_ _ | with_reducible refine Below.al ?_ (by first | with_reducible exact Nat.le_refl _ | omega | (simp;done) | (simp;omega) | exact Nat.le_refl _) _ | with_reducible refine Below.setCell ?_ (by first | with_reducible exact Nat.le_refl _ | omega | (simp;done) | (simp;omega) | exact Nat.le_refl _) _ | assumption | exact Below.refl _ _ | refine below_drewN ?_ _ | refine Below.al ?_ (by first | with_reducible exact Nat.le_refl _ | omega | (simp;done) | (simp;omega) | exact Nat.le_refl _) _ | refine Below.setCell ?_ (by first | with_reducible exact Nat.le_refl _ | omega | (simp;done) | (simp;omega) | exact Nat.le_refl _) _)) (hb.mono (by first | with_reducible exact Nat.le_refl _ | omega | (simp;done) | (simp;omega) | exact Nat.le_refl _))
  have z1:w.heap.size≤u1.heap.size:=hc.size
  have B0c0:u1.cell? ⟨w.heap.size,0,none⟩=some (.slice a n c):=(by rw [(bcell hb).1 _ _ (by first | omega | (simp;done) | (simp;omega))];first | with_reducible assumption | (go_simp;done) | assumption | (simp [World.cell?];done))
  have B0c1:u1.cell? ⟨w.heap.size,1,none⟩=some (.slice ba bn bc):=(by rw [(bcell hb).1 _ _ (by first | omega | (simp;done) | (simp;omega))];first | with_reducible assumption | (go_simp;done) | assumption | (simp [World.cell?];done))
  have B0c2:u1.cell? ⟨w.heap.size,2,none⟩=some (.slice ca cn cc):=(by rw [(bcell hb).1 _ _ (by first | omega | (simp;done) | (simp;omega))];first | with_reducible assumption | (go_simp;done) | assumption | (simp [World.cell?];done))
  have B0p:w.heap.size<u1.heap.size:=World.block_lt_of_cell? _ _ B0c0
  have B0s:w.heap.size<u1.heap.size:=B0p
  have B1c0:u1.cell? ⟨w.heap.size+1,0,none⟩=some (.slice a_ n_ c_):=(by rw [(bcell hb).1 _ _ (by first | omega | (simp;done) | (simp;omega))];first | with_reducible assumption | (go_simp;done) | assumption | (simp [World.cell?];done))
  have B1c1:u1.cell? ⟨w.heap.size+1,1,none⟩=some (.slice ba_ bn_ bc_):=(by rw [(bcell hb).1 _ _ (by first | omega | (simp;done) | (simp;omega))];first | with_reducible assumption | (go_simp;done) | assumption | (simp [World.cell?];done))
  have B1c2:u1.cell? ⟨w.heap.size+1,2,none⟩=some (.slice ca_ cn_ cc_):=(by rw [(bcell hb).1 _ _ (by first | omega | (simp;done) | (simp;omega))];first | with_reducible assumption | (go_simp;done) | assumption | (simp [World.cell?];done))
  have B1p:w.heap.size+1<u1.heap.size:=World.block_lt_of_cell? _ _ B1c0
  have B1s:w.heap.size+1<u1.heap.size:=B1p
  replace DF0:Hid (MatA fz (lo) hi u1 a n c xs):=hid (beMat DF0.out hc (by omega))
  replace DG0:Hid (MatA fz' (lo') hi' u1 a_ n_ c_ xs):=hid (beMat DG0.out hc (by omega))
  replace DF1:Hid (RatsA fz (lo) hi u1 ba bn bc bs):=hid (beRats DF1.out hc (by omega))
  replace DG1:Hid (RatsA fz' (lo') hi' u1 ba_ bn_ bc_ bs):=hid (beRats DG1.out hc (by omega))
  replace DF2:Hid (RatsA fz (lo) hi u1 ca cn cc cs):=hid (beRats DF2.out hc (by omega))
  replace DG2:Hid (RatsA fz' (lo') hi' u1 ca_ cn_ cc_ cs):=hid (beRats DG2.out hc (by omega))
  have HW:=hid hc
  clear hb hc
  go_wp2_with fail
  refine (eqRats ba ba_ bn bc bn_ bc_ bs _ (beRats (B:=u1.heap.size) DF1.out (by repeat (first | with_reducible assumption | with_reducible exact Below.refl _ _ | with_reducible refine below_drewN ?_ _ | with_reducible refine Below.al ?_ (by first | with_reducible exact Nat.le_refl _ | omega | (simp;done) | (simp;omega) | exact Nat.le_refl _) _ | with_reducible refine Below.setCell ?_ (by first | with_reducible exact Nat.le_refl _ | omega | (simp;done) | (simp;omega) | exact Nat.le_refl _) _ | assumption | exact Below.refl _ _ | refine below_drewN ?_ _ | refine Below.al ?_ (by first | with_reducible exact Nat.le_refl _ | omega | (simp;done) | (simp;omega) | exact Nat.le_refl _) _ | refine Below.setCell ?_ (by first | with_reducible exact Nat.le_refl _ | omega | (simp;done) | (simp;omega) | exact Nat.le_refl _) _)) (by first | with_reducible exact Nat.le_refl _ | omega | (simp;done) | (simp;omega) | exact Nat.le_refl _)) (by first | with_reducible exact Nat.le_refl _ | omega | (simp;done) | (simp;omega) | exact Nat.le_refl _) (beRats (B:=u1.heap.size) DG1.out (by repeat (first | with_reducible assumption | with_reducible exact Below.refl _ _ | with_reducible refine below_drewN ?_ _ | with_reducible refine Below.al ?_ (by first | with_reducible exact Nat.le_refl _ | omega | (simp;done) | (simp;omega) | exact Nat.le_refl _) _ | with_reducible refine Below.setCell ?_ (by first | with_reducible exact Nat.le_refl _ | omega | (simp;done) | (simp;omega) | exact Nat.le_refl _) _ | assumption | exact Below.refl _ _ | refine below_drewN ?_ _ | refine Below.al ?_ (by first | with_reducible exact Nat.le_refl _ | omega | (simp;done) | (simp;omega) | exact Nat.le_refl _) _ | refine Below.setCell ?_ (by first | with_reducible exact Nat.le_refl _ | omega | (simp;done) | (simp;omega) | exact Nat.le_refl _) _)) (by first | with_reducible exact Nat.le_refl _ | omega | (simp;done) | (simp;omega) | exact Nat.le_refl _)) (by first | with_reducible exact Nat.le_refl _ | omega | (simp;done) | (simp;omega) | exact Nat.le_refl _)).mono ?_
  rintro e u2 ⟨rfl,hb⟩
  have hc:Below u1.heap.size u1 u2:=Below.trans (by repeat (first | with_reducible assumption | with_reducible exact Below.refl _ _ | with_reducible refine below_drewN ?_ _ | with_reducible refine Below.al ?_ (by first | with_reducible exact Nat.le_refl _ | omega | (simp;done) | (simp;omega) | exact Nat.le_refl _) _ | with_reducible refine Below.setCell ?_ (by first | with_reducible exact Nat.le_refl _ | omega | (simp;done) | (simp;omega) | exact Nat.le_refl _) _ | assumption | exact Below.refl _ _ | refine below_drewN ?_ _ | refine Below.al ?_ (by first | with_reducible exact Nat.le_refl _ | omega | (simp;done) | (simp;omega) | exact Nat.le_refl _) _ | refine Below.setCell ?_ (by first | with_reducible exact Nat.le_refl _ | omega | (simp;done) | (simp;omega) | exact Nat.le_refl _) _)) (hb.mono (by first | with_reducible exact Nat.le_refl _ | omega | (simp;done) | (simp;omega) | exact Nat.le_refl _))
  have z2:u1.heap.size≤u2.heap.size:=hc.size
  replace B0c0:u2.cell? ⟨w.heap.size,0,none⟩=some (.slice a n c):=(by rw [(bcell hc).1 _ _ B0s];exact B0c0)
  replace B0c1:u2.cell? ⟨w.heap.size,1,none⟩=some (.slice ba bn bc):=(by rw [(bcell hc).1 _ _ B0s];exact B0c1)
  replace B0c2:u2.cell? ⟨w.heap.size,2,none⟩=some (.slice ca cn cc):=(by rw [(bcell hc).1 _ _ B0s];exact B0c2)
  replace B0s:w.heap.size<u2.heap.size:=(by omega)
  replace B1c0:u2.cell? ⟨w.heap.size+1,0,none⟩=some (.slice a_ n_ c_):=(by rw [(bcell hc).1 _ _ B1s];exact B1c0)
  replace B1c1:u2.cell? ⟨w.heap.size+1,1,none⟩=some (.slice ba_ bn_ bc_):=(by rw [(bcell hc).1 _ _ B1s];exact B1c1)
  replace B1c2:u2.cell? ⟨w.heap.size+1,2,none⟩=some (.slice ca_ cn_ cc_):=(by rw [(bcell hc).1 _ _ B1s];exact B1c2)
  replace B1s:w.heap.size+1<u2.heap.size:=(by omega)
  replace DF0:Hid (MatA fz (lo) hi u2 a n c xs):=hid (beMat DF0.out hc (by omega))
  replace DG0:Hid (MatA fz' (lo') hi' u2 a_ n_ c_ xs):=hid (beMat DG0.out hc (by omega))
  replace DF1:Hid (RatsA fz (lo) hi u2 ba bn bc bs):=hid (beRats DF1.out hc (by omega))
  replace DG1:Hid (RatsA fz' (lo') hi' u2 ba_ bn_ bc_ bs):=hid (beRats DG1.out hc (by omega))
  replace DF2:Hid (RatsA fz (lo) hi u2 ca cn cc cs):=hid (beRats DF2.out hc (by omega))
  replace DG2:Hid (RatsA fz' (lo') hi' u2 ca_ cn_ cc_ cs):=hid (beRats DG2.out hc (by omega))
  replace HW:Hid (Below w.heap.size w u2):=hid (Below.calm HW.out hc)
  clear hb hc
  go_wp2_with fail
  refine (eqRats ca ca_ cn cc cn_ cc_ cs _ (beRats (B:=u2.heap.size) DF2.out (by repeat (first | with_reducible assumption | with_reducible exact Below.refl _ _ | with_reducible refine below_drewN ?_ _ | with_reducible refine Below.al ?_ (by first | with_reducible exact Nat.le_refl _ | omega | (simp;done) | (simp;omega) | exact Nat.le_refl _) _ | with_reducible refine Below.setCell ?_ (by first | with_reducible exact Nat.le_refl _ | omega | (simp;done) | (simp;omega) | exact Nat.le_refl _) _ | assumption | exact Below.refl _ _ | refine below_drewN ?_ _ | refine Below.al ?_ (by first | with_reducible exact Nat.le_refl _ | omega | (simp;done) | (simp;omega) | exact Nat.le_refl _) _ | refine Below.setCell ?_ (by first | with_reducible exact Nat.le_refl _ | omega | (simp;done) | (simp;omega) | exact Nat.le_refl _) _)) (by first | with_reducible exact Nat.le_refl _ | omega | (simp;done) | (simp;omega) | exact Nat.le_refl _)) (by first | with_reducible exact Nat.le_refl _ | omega | (simp;done) | (simp;omega) | exact Nat.le_refl _) (beRats (B:=u2.heap.size) DG2.out (by repeat (first | with_reducible assumption | with_reducible exact Below.refl _ _ | with_reducible refine below_drewN ?_ _ | with_reducible refine Below.al ?_ (by first | with_reducible exact Nat.le_refl _ | omega | (simp;done) | (simp;omega) | exact Nat.le_refl _) _ | with_reducible refine Below.setCell ?_ (by first | with_reducible exact Nat.le_refl _ | omega | (simp;done) | (simp;omega) | exact Nat.le_refl _) _ | assumption | exact Below.refl _ _ | refine below_drewN ?_ _ | refine Below.al ?_ (by first | with_reducible exact Nat.le_refl _ | omega | (simp;done) | (simp;omega) | exact Nat.le_refl _) _ | refine Below.setCell ?_ (by first | with_reducible exact Nat.le_refl _ | omega | (simp;done) | (simp;omega) | exact Nat.le_refl _) _)) (by first | with_reducible exact Nat.le_refl _ | omega | (simp;done) | (simp;omega) | exact Nat.le_refl _)) (by first | with_reducible exact Nat.le_refl _ | omega | (simp;done) | (simp;omega) | exact Nat.le_refl _)).mono ?_
  rintro e u3 ⟨rfl,hb⟩
  have hc:Below u2.heap.size u2 u3:=Below.trans (by repeat (first | with_reducible assumption | with_reducible exact Below.refl _ _ | with_reducible refine below_drewN ?_ _ | with_reducible refine Below.al ?_ (by first | with_reducible exact Nat.le_refl _ | omega | (simp;done) | (simp;omega) | exact Nat.le_refl _) _ | with_reducible refine Below.setCell ?_ (by first | with_reducible exact Nat.le_refl _ | omega | (simp;done) | (simp;omega) | exact Nat.le_refl _) _ | assumption | exact Below.refl _ _ | refine below_drewN ?_ _ | refine Below.al ?_ (by first | with_reducible exact Nat.le_refl _ | omega | (simp;done) | (simp;omega) | exact Nat.le_refl _) _ | refine Below.setCell ?_ (by first | with_reducible exact Nat.le_refl _ | omega | (simp;done) | (simp;omega) | exact Nat.le_refl _) _)) (hb.mono (by first | with_reducible exact Nat.le_refl _ | omega | (simp;done) | (simp;omega) | exact Nat.le_refl _))
  have z3:u2.heap.size≤u3.heap.size:=hc.size
  replace B0c0:u3.cell? ⟨w.heap.size,0,none⟩=some (.slice a n c):=(by rw [(bcell hc).1 _ _ B0s];exact B0c0)
  replace B0c1:u3.cell? ⟨w.heap.size,1,none⟩=some (.slice ba bn bc):=(by rw [(bcell hc).1 _ _ B0s];exact B0c1)
  replace B0c2:u3.cell? ⟨w.heap.size,2,none⟩=some (.slice ca cn cc):=(by rw [(bcell hc).1 _ _ B0s];exact B0c2)
  replace B0s:w.heap.size<u3.heap.size:=(by omega)
  replace B1c0:u3.cell? ⟨w.heap.size+1,0,none⟩=some (.slice a_ n_ c_):=(by rw [(bcell hc).1 _ _ B1s];exact B1c0)
  replace B1c1:u3.cell? ⟨w.heap.size+1,1,none⟩=some (.slice ba_ bn_ bc_):=(by rw [(bcell hc).1 _ _ B1s];exact B1c1)
  replace B1c2:u3.cell? ⟨w.heap.size+1,2,none⟩=some (.slice ca_ cn_ cc_):=(by rw [(bcell hc).1 _ _ B1s];exact B1c2)
  replace B1s:w.heap.size+1<u3.heap.size:=(by omega)
  replace DF0:Hid (MatA fz (lo) hi u3 a n c xs):=hid (beMat DF0.out hc (by omega))
  replace DG0:Hid (MatA fz' (lo') hi' u3 a_ n_ c_ xs):=hid (beMat DG0.out hc (by omega))
  replace DF1:Hid (RatsA fz (lo) hi u3 ba bn bc bs):=hid (beRats DF1.out hc (by omega))
  replace DG1:Hid (RatsA fz' (lo') hi' u3 ba_ bn_ bc_ bs):=hid (beRats DG1.out hc (by omega))
  replace DF2:Hid (RatsA fz (lo) hi u3 ca cn cc cs):=hid (beRats DF2.out hc (by omega))
  replace DG2:Hid (RatsA fz' (lo') hi' u3 ca_ cn_ cc_ cs):=hid (beRats DG2.out hc (by omega))
  replace HW:Hid (Below w.heap.size w u3):=hid (Below.calm HW.out hc)
  clear hb hc
  go_wp2_with fail
  go_ret
  exact ⟨rfl,HW.out⟩
def cntLP (xs:List (List RatD)) (bs:List RatD) (cs:List RatD):Nat:=(mlens xs xs.length*2)+(bs.length*2)+(cs.length*2)
def GvLP (w:World) (xs:List (List RatD)) (bs:List RatD) (cs:List RatD) (e:Ending) (w':World):Prop:=∃ a n c ba bn bc ca cn cc,e=.returned (lpVal a n c ba bn bc ca cn cc)∧LPA true w.heap.size w'.heap.size w' a n c xs ba bn bc bs ca cn cc cs∧Below w.heap.size w w'
set_option maxHeartbeats 3200000 in
theorem toK_LP {lo hi:Nat} (a:Option Addr) (n:Nat) (c:Nat) (xs:List (List RatD)) (ba:Option Addr) (bn:Nat) (bc:Nat) (bs:List RatD) (ca:Option Addr) (cn:Nat) (cc:Nat) (cs:List RatD) (w:World) (hI:LPA false lo hi w a n c xs ba bn bc bs ca cn cc cs) (hh:hi≤w.heap.size) (hs:szLP xs bs cs≤1048576) :
    Calls Try.prog 8 #[lpVal a n c ba bn bc ca cn cc] w (GvLP w xs bs cs):=by
  have DF0:=hid hI.1
  have DF1:=hid hI.2.1
  have DF2:=hid hI.2.2
  clear hI
  have HS0:Hid (matSz xs≤1048576):=hid (by unfold szLP at hs;omega)
  have HS1:Hid (bs.length≤1048576):=hid (by unfold szLP at hs;omega)
  have HS2:Hid (cs.length≤1048576):=hid (by unfold szLP at hs;omega)
  clear hs
  go_enter Try.func8,Try.ntmps8
  go_wp2_with fail
  refine (toMat a n c xs _ (beMat (B:=w.heap.size) DF0.out (by repeat (first | with_reducible assumption | with_reducible exact Below.refl _ _ | with_reducible refine below_drewN ?_ _ | with_reducible refine Below.al ?_ (by first | with_reducible exact Nat.le_refl _ | omega | (simp;done) | (simp;omega) | exact Nat.le_refl _) _ | with_reducible refine Below.setCell ?_ (by first | with_reducible exact Nat.le_refl _ | omega | (simp;done) | (simp;omega) | exact Nat.le_refl _) _ | assumption | exact Below.refl _ _ | refine below_drewN ?_ _ | refine Below.al ?_ (by first | with_reducible exact Nat.le_refl _ | omega | (simp;done) | (simp;omega) | exact Nat.le_refl _) _ | refine Below.setCell ?_ (by first | with_reducible exact Nat.le_refl _ | omega | (simp;done) | (simp;omega) | exact Nat.le_refl _) _)) hh) (by first | with_reducible exact Nat.le_refl _ | omega | (simp;done) | (simp;omega) | exact Nat.le_refl _) HS0.out).mono ?_
  rintro e u1 ⟨aR,nR,cR,rfl,ho,hb⟩
  have hz:w.heap.size+3≤u1.heap.size:=by have:=hb.size;simp at this;omega
  have hc:Below w.heap.size w u1:=Below.trans (by repeat (first | with_reducible assumption | with_reducible exact Below.refl _ _ | with_reducible refine below_drewN ?_ _ | with_reducible refine Below.al ?_ (by first | with_reducible exact Nat.le_refl _ | omega | (simp;done) | (simp;omega) | exact Nat.le_refl _) _ | with_reducible refine Below.setCell ?_ (by first | with_reducible exact Nat.le_refl _ | omega | (simp;done) | (simp;omega) | exact Nat.le_refl _) _ | assumption | exact Below.refl _ _ | refine below_drewN ?_ _ | refine Below.al ?_ (by first | with_reducible exact Nat.le_refl _ | omega | (simp;done) | (simp;omega) | exact Nat.le_refl _) _ | refine Below.setCell ?_ (by first | with_reducible exact Nat.le_refl _ | omega | (simp;done) | (simp;omega) | exact Nat.le_refl _) _)) (hb.mono (by simp;omega))
  replace DF1:Hid (RatsA false (lo) hi u1 ba bn bc bs):=hid (beRats (B:=w.heap.size) DF1.out hc (by omega))
  replace DF2:Hid (RatsA false (lo) hi u1 ca cn cc cs):=hid (beRats (B:=w.heap.size) DF2.out hc (by omega))
  have a0:u1.cell? ⟨w.heap.size,0,none⟩=some (.slice a n c):=(by rw [(bcell hb).1 _ _ (by first | omega | (simp;done) | (simp;omega))];first | with_reducible assumption | (go_simp;done) | assumption | (simp [World.cell?];done))
  have a1:u1.cell? ⟨w.heap.size,1,none⟩=some (.slice ba bn bc):=(by rw [(bcell hb).1 _ _ (by first | omega | (simp;done) | (simp;omega))];first | with_reducible assumption | (go_simp;done) | assumption | (simp [World.cell?];done))
  have a2:u1.cell? ⟨w.heap.size,2,none⟩=some (.slice ca cn cc):=(by rw [(bcell hb).1 _ _ (by first | omega | (simp;done) | (simp;omega))];first | with_reducible assumption | (go_simp;done) | assumption | (simp [World.cell?];done))
  have q0:u1.cell? ⟨w.heap.size+1,0,none⟩=some (.slice none 0 0):=(by rw [(bcell hb).1 _ _ (by first | omega | (simp;done) | (simp;omega))];first | with_reducible assumption | (go_simp;done) | assumption | (simp [World.cell?];done))
  have qf0:u1.frozen? ⟨w.heap.size+1,0,none⟩=false:=(by rw [(bcell hb).2 _ _ (by first | omega | (simp;done) | (simp;omega))];first | with_reducible assumption | (go_simp;done) | assumption | (simp [World.frozen?];done))
  have q1:u1.cell? ⟨w.heap.size+1,1,none⟩=some (.slice none 0 0):=(by rw [(bcell hb).1 _ _ (by first | omega | (simp;done) | (simp;omega))];first | with_reducible assumption | (go_simp;done) | assumption | (simp [World.cell?];done))
  have qf1:u1.frozen? ⟨w.heap.size+1,1,none⟩=false:=(by rw [(bcell hb).2 _ _ (by first | omega | (simp;done) | (simp;omega))];first | with_reducible assumption | (go_simp;done) | assumption | (simp [World.frozen?];done))
  have q2:u1.cell? ⟨w.heap.size+1,2,none⟩=some (.slice none 0 0):=(by rw [(bcell hb).1 _ _ (by first | omega | (simp;done) | (simp;omega))];first | with_reducible assumption | (go_simp;done) | assumption | (simp [World.cell?];done))
  have qf2:u1.frozen? ⟨w.heap.size+1,2,none⟩=false:=(by rw [(bcell hb).2 _ _ (by first | omega | (simp;done) | (simp;omega))];first | with_reducible assumption | (go_simp;done) | assumption | (simp [World.frozen?];done))
  have r0:u1.cell? ⟨w.heap.size+2,0,none⟩=some (.slice none 0 0):=(by rw [(bcell hb).1 _ _ (by first | omega | (simp;done) | (simp;omega))];first | with_reducible assumption | (go_simp;done) | assumption | (simp [World.cell?];done))
  have rf0:u1.frozen? ⟨w.heap.size+2,0,none⟩=false:=(by rw [(bcell hb).2 _ _ (by first | omega | (simp;done) | (simp;omega))];first | with_reducible assumption | (go_simp;done) | assumption | (simp [World.frozen?];done))
  have r1:u1.cell? ⟨w.heap.size+2,1,none⟩=some (.slice none 0 0):=(by rw [(bcell hb).1 _ _ (by first | omega | (simp;done) | (simp;omega))];first | with_reducible assumption | (go_simp;done) | assumption | (simp [World.cell?];done))
  have rf1:u1.frozen? ⟨w.heap.size+2,1,none⟩=false:=(by rw [(bcell hb).2 _ _ (by first | omega | (simp;done) | (simp;omega))];first | with_reducible assumption | (go_simp;done) | assumption | (simp [World.frozen?];done))
  have r2:u1.cell? ⟨w.heap.size+2,2,none⟩=some (.slice none 0 0):=(by rw [(bcell hb).1 _ _ (by first | omega | (simp;done) | (simp;omega))];first | with_reducible assumption | (go_simp;done) | assumption | (simp [World.cell?];done))
  have rf2:u1.frozen? ⟨w.heap.size+2,2,none⟩=false:=(by rw [(bcell hb).2 _ _ (by first | omega | (simp;done) | (simp;omega))];first | with_reducible assumption | (go_simp;done) | assumption | (simp [World.frozen?];done))
  have hI0:Hid (MatA true (w.heap.size+3) u1.heap.size u1 aR nR cR xs):=hid (by simpa using ho)
  have HW:=hid hc
  clear ho hb hc
  have hz1:w.heap.size+3≤u1.heap.size:=hz;clear hz
  go_wp2_with fail
  refine (toRats ba bn bc bs _ (beRats (B:=w.heap.size) DF1.out (by repeat (first | with_reducible assumption | with_reducible exact Below.refl _ _ | with_reducible refine below_drewN ?_ _ | with_reducible refine Below.al ?_ (by first | with_reducible exact Nat.le_refl _ | omega | (simp;done) | (simp;omega) | exact Nat.le_refl _) _ | with_reducible refine Below.setCell ?_ (by first | with_reducible exact Nat.le_refl _ | omega | (simp;done) | (simp;omega) | exact Nat.le_refl _) _ | assumption | exact Below.refl _ _ | refine below_drewN ?_ _ | refine Below.al ?_ (by first | with_reducible exact Nat.le_refl _ | omega | (simp;done) | (simp;omega) | exact Nat.le_refl _) _ | refine Below.setCell ?_ (by first | with_reducible exact Nat.le_refl _ | omega | (simp;done) | (simp;omega) | exact Nat.le_refl _) _)) (by omega)) (by first | with_reducible exact Nat.le_refl _ | omega | (simp;done) | (simp;omega) | exact Nat.le_refl _) HS1.out).mono ?_
  rintro e u2 ⟨baR,bnR,bcR,rfl,ho,hb⟩
  have hz:u1.heap.size≤u2.heap.size:=by have:=hb.size;simp only [szSet] at this;omega
  have hs2:Below w.heap.size u1 u2:=Below.trans (Below.setCell (Below.refl _ _) (by dsimp only;omega) _) (hb.mono (by simp only [szSet];omega))
  have hc:Below w.heap.size w u2:=HW.out.trans hs2
  replace DF2:Hid (RatsA false (lo) hi u2 ca cn cc cs):=hid (beRats (B:=w.heap.size) DF2.out hs2 (by omega))
  replace a0:u2.cell? ⟨w.heap.size,0,none⟩=some (.slice a n c):=by rw [(bcell hb).1 _ _ (by simp only [szSet];omega)];rw [cset_other (by intro h;simp only [Addr.mk.injEq] at h;omega)];exact a0
  replace a1:u2.cell? ⟨w.heap.size,1,none⟩=some (.slice ba bn bc):=by rw [(bcell hb).1 _ _ (by simp only [szSet];omega)];rw [cset_other (by intro h;simp only [Addr.mk.injEq] at h;omega)];exact a1
  replace a2:u2.cell? ⟨w.heap.size,2,none⟩=some (.slice ca cn cc):=by rw [(bcell hb).1 _ _ (by simp only [szSet];omega)];rw [cset_other (by intro h;simp only [Addr.mk.injEq] at h;omega)];exact a2
  replace q0:u2.cell? ⟨w.heap.size+1,0,none⟩=some (.slice none 0 0):=by rw [(bcell hb).1 _ _ (by simp only [szSet];omega)];rw [cset_other (by intro h;simp only [Addr.mk.injEq] at h;omega)];exact q0
  replace qf0:u2.frozen? ⟨w.heap.size+1,0,none⟩=false:=by rw [(bcell hb).2 _ _ (by simp only [szSet];omega)];simp only [fset];exact qf0
  replace q1:u2.cell? ⟨w.heap.size+1,1,none⟩=some (.slice none 0 0):=by rw [(bcell hb).1 _ _ (by simp only [szSet];omega)];rw [cset_other (by intro h;simp only [Addr.mk.injEq] at h;omega)];exact q1
  replace qf1:u2.frozen? ⟨w.heap.size+1,1,none⟩=false:=by rw [(bcell hb).2 _ _ (by simp only [szSet];omega)];simp only [fset];exact qf1
  replace q2:u2.cell? ⟨w.heap.size+1,2,none⟩=some (.slice none 0 0):=by rw [(bcell hb).1 _ _ (by simp only [szSet];omega)];rw [cset_other (by intro h;simp only [Addr.mk.injEq] at h;omega)];exact q2
  replace qf2:u2.frozen? ⟨w.heap.size+1,2,none⟩=false:=by rw [(bcell hb).2 _ _ (by simp only [szSet];omega)];simp only [fset];exact qf2
  replace r0:u2.cell? ⟨w.heap.size+2,0,none⟩=some (.slice aR nR cR):=by rw [(bcell hb).1 _ _ (by simp only [szSet];omega)];exact cset_same (u:=.slice none 0 0) r0
  replace rf0:u2.frozen? ⟨w.heap.size+2,0,none⟩=false:=by rw [(bcell hb).2 _ _ (by simp only [szSet];omega)];simp only [fset];exact rf0
  replace r1:u2.cell? ⟨w.heap.size+2,1,none⟩=some (.slice none 0 0):=by rw [(bcell hb).1 _ _ (by simp only [szSet];omega)];rw [cset_other (by intro h;simp only [Addr.mk.injEq] at h;omega)];exact r1
  replace rf1:u2.frozen? ⟨w.heap.size+2,1,none⟩=false:=by rw [(bcell hb).2 _ _ (by simp only [szSet];omega)];simp only [fset];exact rf1
  replace r2:u2.cell? ⟨w.heap.size+2,2,none⟩=some (.slice none 0 0):=by rw [(bcell hb).1 _ _ (by simp only [szSet];omega)];rw [cset_other (by intro h;simp only [Addr.mk.injEq] at h;omega)];exact r2
  replace rf2:u2.frozen? ⟨w.heap.size+2,2,none⟩=false:=by rw [(bcell hb).2 _ _ (by simp only [szSet];omega)];simp only [fset];exact rf2
  have hI1:Hid (RatsA true (u1.heap.size) u2.heap.size u2 baR bnR bcR bs):=hid (by simpa using ho)
  replace hI0:Hid (MatA true (w.heap.size+3) u1.heap.size u2 aR nR cR xs):=hid (kpMat hI0.out (Keeps.trans (Keeps.sc (Keeps.refl _ _ _) (.inl (by omega)) _) (Keeps.of_below hb (by simp only [szSet];omega))))
  replace HW:=hid hc
  clear ho hb hc hs2
  have hz2:u1.heap.size≤u2.heap.size:=hz;clear hz
  go_wp2_with fail
  refine (toRats ca cn cc cs _ (beRats (B:=w.heap.size) DF2.out (by repeat (first | with_reducible assumption | with_reducible exact Below.refl _ _ | with_reducible refine below_drewN ?_ _ | with_reducible refine Below.al ?_ (by first | with_reducible exact Nat.le_refl _ | omega | (simp;done) | (simp;omega) | exact Nat.le_refl _) _ | with_reducible refine Below.setCell ?_ (by first | with_reducible exact Nat.le_refl _ | omega | (simp;done) | (simp;omega) | exact Nat.le_refl _) _ | assumption | exact Below.refl _ _ | refine below_drewN ?_ _ | refine Below.al ?_ (by first | with_reducible exact Nat.le_refl _ | omega | (simp;done) | (simp;omega) | exact Nat.le_refl _) _ | refine Below.setCell ?_ (by first | with_reducible exact Nat.le_refl _ | omega | (simp;done) | (simp;omega) | exact Nat.le_refl _) _)) (by omega)) (by first | with_reducible exact Nat.le_refl _ | omega | (simp;done) | (simp;omega) | exact Nat.le_refl _) HS2.out).mono ?_
  rintro e u3 ⟨caR,cnR,ccR,rfl,ho,hb⟩
  have hz:u2.heap.size≤u3.heap.size:=by have:=hb.size;simp only [szSet] at this;omega
  have hs2:Below w.heap.size u2 u3:=Below.trans (Below.setCell (Below.refl _ _) (by dsimp only;omega) _) (hb.mono (by simp only [szSet];omega))
  have hc:Below w.heap.size w u3:=HW.out.trans hs2
  replace a0:u3.cell? ⟨w.heap.size,0,none⟩=some (.slice a n c):=by rw [(bcell hb).1 _ _ (by simp only [szSet];omega)];rw [cset_other (by intro h;simp only [Addr.mk.injEq] at h;omega)];exact a0
  replace a1:u3.cell? ⟨w.heap.size,1,none⟩=some (.slice ba bn bc):=by rw [(bcell hb).1 _ _ (by simp only [szSet];omega)];rw [cset_other (by intro h;simp only [Addr.mk.injEq] at h;omega)];exact a1
  replace a2:u3.cell? ⟨w.heap.size,2,none⟩=some (.slice ca cn cc):=by rw [(bcell hb).1 _ _ (by simp only [szSet];omega)];rw [cset_other (by intro h;simp only [Addr.mk.injEq] at h;omega)];exact a2
  replace q0:u3.cell? ⟨w.heap.size+1,0,none⟩=some (.slice none 0 0):=by rw [(bcell hb).1 _ _ (by simp only [szSet];omega)];rw [cset_other (by intro h;simp only [Addr.mk.injEq] at h;omega)];exact q0
  replace qf0:u3.frozen? ⟨w.heap.size+1,0,none⟩=false:=by rw [(bcell hb).2 _ _ (by simp only [szSet];omega)];simp only [fset];exact qf0
  replace q1:u3.cell? ⟨w.heap.size+1,1,none⟩=some (.slice none 0 0):=by rw [(bcell hb).1 _ _ (by simp only [szSet];omega)];rw [cset_other (by intro h;simp only [Addr.mk.injEq] at h;omega)];exact q1
  replace qf1:u3.frozen? ⟨w.heap.size+1,1,none⟩=false:=by rw [(bcell hb).2 _ _ (by simp only [szSet];omega)];simp only [fset];exact qf1
  replace q2:u3.cell? ⟨w.heap.size+1,2,none⟩=some (.slice none 0 0):=by rw [(bcell hb).1 _ _ (by simp only [szSet];omega)];rw [cset_other (by intro h;simp only [Addr.mk.injEq] at h;omega)];exact q2
  replace qf2:u3.frozen? ⟨w.heap.size+1,2,none⟩=false:=by rw [(bcell hb).2 _ _ (by simp only [szSet];omega)];simp only [fset];exact qf2
  replace r0:u3.cell? ⟨w.heap.size+2,0,none⟩=some (.slice aR nR cR):=by rw [(bcell hb).1 _ _ (by simp only [szSet];omega)];rw [cset_other (by intro h;simp only [Addr.mk.injEq] at h;omega)];exact r0
  replace rf0:u3.frozen? ⟨w.heap.size+2,0,none⟩=false:=by rw [(bcell hb).2 _ _ (by simp only [szSet];omega)];simp only [fset];exact rf0
  replace r1:u3.cell? ⟨w.heap.size+2,1,none⟩=some (.slice baR bnR bcR):=by rw [(bcell hb).1 _ _ (by simp only [szSet];omega)];exact cset_same (u:=.slice none 0 0) r1
  replace rf1:u3.frozen? ⟨w.heap.size+2,1,none⟩=false:=by rw [(bcell hb).2 _ _ (by simp only [szSet];omega)];simp only [fset];exact rf1
  replace r2:u3.cell? ⟨w.heap.size+2,2,none⟩=some (.slice none 0 0):=by rw [(bcell hb).1 _ _ (by simp only [szSet];omega)];rw [cset_other (by intro h;simp only [Addr.mk.injEq] at h;omega)];exact r2
  replace rf2:u3.frozen? ⟨w.heap.size+2,2,none⟩=false:=by rw [(bcell hb).2 _ _ (by simp only [szSet];omega)];simp only [fset];exact rf2
  have hI2:Hid (RatsA true (u2.heap.size) u3.heap.size u3 caR cnR ccR cs):=hid (by simpa using ho)
  replace hI0:Hid (MatA true (w.heap.size+3) u1.heap.size u3 aR nR cR xs):=hid (kpMat hI0.out (Keeps.trans (Keeps.sc (Keeps.refl _ _ _) (.inl (by omega)) _) (Keeps.of_below hb (by simp only [szSet];omega))))
  replace hI1:Hid (RatsA true (u1.heap.size) u2.heap.size u3 baR bnR bcR bs):=hid (kpRats hI1.out (Keeps.trans (Keeps.sc (Keeps.refl _ _ _) (.inl (by omega)) _) (Keeps.of_below hb (by simp only [szSet];omega))))
  replace HW:=hid hc
  clear ho hb hc hs2
  have hz3:u2.heap.size≤u3.heap.size:=hz;clear hz
  go_wp2_with fail
  refine bodyPost_ret (v:=lpVal aR nR cR baR bnR bcR caR cnR ccR) ?_ rfl ⟨_,_,_,_,_,_,_,_,_,rfl,?_,?_⟩
  · (simp [results,Try.results8,go_sem,q0,q1,q2];done)
  · exact ⟨(hgMat (wdMat (kpMat hI0.out (Keeps.sc (Keeps.sc (Keeps.sc (Keeps.sc (Keeps.refl _ _ _) (.inl (by omega)) _) (.inl (by omega)) _) (.inl (by omega)) _) (.inl (by omega)) _)) (by omega)) (by simp only [szSet];omega)),(hgRats (wdRats (kpRats hI1.out (Keeps.sc (Keeps.sc (Keeps.sc (Keeps.sc (Keeps.refl _ _ _) (.inl (by omega)) _) (.inl (by omega)) _) (.inl (by omega)) _) (.inl (by omega)) _)) (by omega)) (by simp only [szSet];omega)),(hgRats (wdRats (kpRats hI2.out (Keeps.sc (Keeps.sc (Keeps.sc (Keeps.sc (Keeps.refl _ _ _) (.inl (by omega)) _) (.inl (by omega)) _) (.inl (by omega)) _) (.inl (by omega)) _)) (by omega)) (by simp only [szSet];omega))⟩
  · exact Below.trans HW.out (Below.setCell (Below.setCell (Below.setCell (Below.setCell (Below.refl _ _) (by dsimp only;omega) _) (by dsimp only;omega) _) (by dsimp only;omega) _) (by dsimp only;omega) _)
end Go.Proofs.Ytpbclpopoodklaa
