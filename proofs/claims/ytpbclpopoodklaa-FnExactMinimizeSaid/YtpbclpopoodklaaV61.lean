/- Lemmas for the proof of FnExactMaximize, part 53 of 56: no condition of their own. -/
import Derived.Test.YtpbclpopoodklaaTB
namespace Go.Proofs.Ytpbclpopoodklaa
set_option linter.unusedSimpArgs false
set_option linter.unusedVariables false
open Go.RowKit
set_option maxHeartbeats 4000000 in
theorem law_FnExactMinimize (a0:Option Addr) (n0:Nat) (c0:Nat) (xs0:List (List RatD)) (ba0:Option Addr) (bn0:Nat) (bc0:Nat) (bs0:List RatD) (ca0:Option Addr) (cn0:Nat) (cc0:Nat) (cs0:List RatD) (w:World) (hD0:LPA false (0) w.heap.size w a0 n0 c0 xs0 ba0 bn0 bc0 bs0 ca0 cn0 cc0 cs0) :
    Calls Try.prog 4 #[lpVal a0 n0 c0 ba0 bn0 bc0 ca0 cn0 cc0] w (Leaves w (.bool true)):=by
  have DA0:=hid hD0;clear hD0
  go_enter Try.func4,Try.ntmps4
  go_wp2_with fail
  refine (szK_LP a0 n0 c0 xs0 ba0 bn0 bc0 bs0 ca0 cn0 cc0 cs0 1048576 _ (beLP (B:=w.heap.size) DA0.out (by repeat (first | with_reducible assumption | with_reducible exact Below.refl _ _ | with_reducible refine below_drewN ?_ _ | with_reducible refine Below.al ?_ (by first | with_reducible exact Nat.le_refl _ | omega | (simp;done) | (simp;omega) | exact Nat.le_refl _) _ | with_reducible refine Below.setCell ?_ (by first | with_reducible exact Nat.le_refl _ | omega | (simp;done) | (simp;omega) | exact Nat.le_refl _) _ | assumption | exact Below.refl _ _ | refine below_drewN ?_ _ | refine Below.al ?_ (by first | with_reducible exact Nat.le_refl _ | omega | (simp;done) | (simp;omega) | exact Nat.le_refl _) _ | refine Below.setCell ?_ (by first | with_reducible exact Nat.le_refl _ | omega | (simp;done) | (simp;omega) | exact Nat.le_refl _) _)) (by first | with_reducible exact Nat.le_refl _ | omega | (simp;done) | (simp;omega) | exact Nat.le_refl _)) (by first | with_reducible exact Nat.le_refl _ | omega | (simp;done) | (simp;omega) | exact Nat.le_refl _) (by omega) (by omega)).mono ?_
  rintro e u1 ⟨rfl,hb⟩
  have hc:Below w.heap.size w u1:=Below.trans (by repeat (first | with_reducible assumption | with_reducible exact Below.refl _ _ | with_reducible refine below_drewN ?_ _ | with_reducible refine Below.al ?_ (by first | with_reducible exact Nat.le_refl _ | omega | (simp;done) | (simp;omega) | exact Nat.le_refl _) _ | with_reducible refine Below.setCell ?_ (by first | with_reducible exact Nat.le_refl _ | omega | (simp;done) | (simp;omega) | exact Nat.le_refl _) _ | assumption | exact Below.refl _ _ | refine below_drewN ?_ _ | refine Below.al ?_ (by first | with_reducible exact Nat.le_refl _ | omega | (simp;done) | (simp;omega) | exact Nat.le_refl _) _ | refine Below.setCell ?_ (by first | with_reducible exact Nat.le_refl _ | omega | (simp;done) | (simp;omega) | exact Nat.le_refl _) _)) (hb.mono (by first | with_reducible exact Nat.le_refl _ | omega | (simp;done) | (simp;omega) | exact Nat.le_refl _))
  have z1:w.heap.size≤u1.heap.size:=hc.size
  have B0c0:u1.cell? ⟨w.heap.size,0,none⟩=some (.slice a0 n0 c0):=(by rw [(bcell hb).1 _ _ (by first | omega | (simp;done) | (simp;omega))];first | with_reducible assumption | (go_simp;done) | assumption | (simp [World.cell?];done))
  have B0c1:u1.cell? ⟨w.heap.size,1,none⟩=some (.slice ba0 bn0 bc0):=(by rw [(bcell hb).1 _ _ (by first | omega | (simp;done) | (simp;omega))];first | with_reducible assumption | (go_simp;done) | assumption | (simp [World.cell?];done))
  have B0c2:u1.cell? ⟨w.heap.size,2,none⟩=some (.slice ca0 cn0 cc0):=(by rw [(bcell hb).1 _ _ (by first | omega | (simp;done) | (simp;omega))];first | with_reducible assumption | (go_simp;done) | assumption | (simp [World.cell?];done))
  have B0p:w.heap.size<u1.heap.size:=World.block_lt_of_cell? _ _ B0c0
  have B0s:w.heap.size<u1.heap.size:=B0p
  replace DA0:Hid (LPA false (0) w.heap.size u1 a0 n0 c0 xs0 ba0 bn0 bc0 bs0 ca0 cn0 cc0 cs0):=hid (beLP DA0.out hc (by omega))
  have HW:=hid hc
  clear hb hc
  by_cases hsz0:(szLP xs0 bs0 cs0:Int)≤1048576
  · rw [szI_yes hsz0]
    obtain ⟨left0,hleft0⟩:∃ l,l=1048576 - (szLP xs0 bs0 cs0:Int):=⟨_,rfl⟩
    rw [← hleft0]
    have hlo0:0≤left0:=by omega
    have hhi0:left0≤1048576:=by omega
    have HS0:Hid (szLP xs0 bs0 cs0≤1048576):=hid (by omega)
    have HQ0:=hid (And.intro hsz0 hleft0);clear hsz0 hleft0
    go_wp2_with fail
    refine (toK_LP a0 n0 c0 xs0 ba0 bn0 bc0 bs0 ca0 cn0 cc0 cs0 _ (beLP (B:=u1.heap.size) DA0.out (by repeat (first | with_reducible assumption | with_reducible exact Below.refl _ _ | with_reducible refine below_drewN ?_ _ | with_reducible refine Below.al ?_ (by first | with_reducible exact Nat.le_refl _ | omega | (simp;done) | (simp;omega) | exact Nat.le_refl _) _ | with_reducible refine Below.setCell ?_ (by first | with_reducible exact Nat.le_refl _ | omega | (simp;done) | (simp;omega) | exact Nat.le_refl _) _ | assumption | exact Below.refl _ _ | refine below_drewN ?_ _ | refine Below.al ?_ (by first | with_reducible exact Nat.le_refl _ | omega | (simp;done) | (simp;omega) | exact Nat.le_refl _) _ | refine Below.setCell ?_ (by first | with_reducible exact Nat.le_refl _ | omega | (simp;done) | (simp;omega) | exact Nat.le_refl _) _)) (by first | with_reducible exact Nat.le_refl _ | omega | (simp;done) | (simp;omega) | exact Nat.le_refl _)) (by first | with_reducible exact Nat.le_refl _ | omega | (simp;done) | (simp;omega) | exact Nat.le_refl _) HS0.out).mono ?_
    rintro e u2 ⟨ap0,np0,cp0,bap0,bnp0,bcp0,cap0,cnp0,ccp0,rfl,ho,hb⟩
    have hc:Below u1.heap.size u1 u2:=Below.trans (by repeat (first | with_reducible assumption | with_reducible exact Below.refl _ _ | with_reducible refine below_drewN ?_ _ | with_reducible refine Below.al ?_ (by first | with_reducible exact Nat.le_refl _ | omega | (simp;done) | (simp;omega) | exact Nat.le_refl _) _ | with_reducible refine Below.setCell ?_ (by first | with_reducible exact Nat.le_refl _ | omega | (simp;done) | (simp;omega) | exact Nat.le_refl _) _ | assumption | exact Below.refl _ _ | refine below_drewN ?_ _ | refine Below.al ?_ (by first | with_reducible exact Nat.le_refl _ | omega | (simp;done) | (simp;omega) | exact Nat.le_refl _) _ | refine Below.setCell ?_ (by first | with_reducible exact Nat.le_refl _ | omega | (simp;done) | (simp;omega) | exact Nat.le_refl _) _)) (hb.mono (by first | with_reducible exact Nat.le_refl _ | omega | (simp;done) | (simp;omega) | exact Nat.le_refl _))
    have z2:u1.heap.size≤u2.heap.size:=hc.size
    replace B0c0:u2.cell? ⟨w.heap.size,0,none⟩=some (.slice a0 n0 c0):=(by rw [(bcell hc).1 _ _ B0s];exact B0c0)
    replace B0c1:u2.cell? ⟨w.heap.size,1,none⟩=some (.slice ba0 bn0 bc0):=(by rw [(bcell hc).1 _ _ B0s];exact B0c1)
    replace B0c2:u2.cell? ⟨w.heap.size,2,none⟩=some (.slice ca0 cn0 cc0):=(by rw [(bcell hc).1 _ _ B0s];exact B0c2)
    replace B0s:w.heap.size<u2.heap.size:=(by omega)
    replace DA0:Hid (LPA false (0) w.heap.size u2 a0 n0 c0 xs0 ba0 bn0 bc0 bs0 ca0 cn0 cc0 cs0):=hid (beLP DA0.out hc (by omega))
    replace HW:Hid (Below w.heap.size w u2):=hid (Below.calm HW.out hc)
    have Dp0:Hid (LPA true (u1.heap.size) u2.heap.size u2 ap0 np0 cp0 xs0 bap0 bnp0 bcp0 bs0 cap0 cnp0 ccp0 cs0):=hid (wdLP ho (by first | with_reducible exact Nat.le_refl _ | omega | (simp;done) | (simp;omega) | exact Nat.le_refl _))
    clear ho hb hc
    obtain ⟨dxs,hdxs⟩:∃ x:List RatD,(mnF xs0 bs0 cs0).pt=x:=⟨_,rfl⟩
    have HDxs:=hid hdxs;clear hdxs
    obtain ⟨rb,hrb⟩:∃ x:Bool,(mnF xs0 bs0 cs0).found=x:=⟨_,rfl⟩
    have hneb:((rb:Bool) != rb)=false:=by simp
    have HRB:=hid hrb;clear hrb
    obtain ⟨rv,hrv⟩:∃ x:RatD,(mnF xs0 bs0 cs0).val=x:=⟨_,rfl⟩
    have HRV:=hid hrv;clear hrv
    go_wp2_with fail
    refine (specMin (beLP (B:=u2.heap.size) Dp0.out (by repeat (first | with_reducible assumption | with_reducible exact Below.refl _ _ | with_reducible refine below_drewN ?_ _ | with_reducible refine Below.al ?_ (by first | with_reducible exact Nat.le_refl _ | omega | (simp;done) | (simp;omega) | exact Nat.le_refl _) _ | with_reducible refine Below.setCell ?_ (by first | with_reducible exact Nat.le_refl _ | omega | (simp;done) | (simp;omega) | exact Nat.le_refl _) _ | assumption | exact Below.refl _ _ | refine below_drewN ?_ _ | refine Below.al ?_ (by first | with_reducible exact Nat.le_refl _ | omega | (simp;done) | (simp;omega) | exact Nat.le_refl _) _ | refine Below.setCell ?_ (by first | with_reducible exact Nat.le_refl _ | omega | (simp;done) | (simp;omega) | exact Nat.le_refl _) _)) (by first | with_reducible exact Nat.le_refl _ | omega | (simp;done) | (simp;omega) | exact Nat.le_refl _)) (by first | with_reducible exact Nat.le_refl _ | omega | (simp;done) | (simp;omega) | exact Nat.le_refl _) (by first | with_reducible exact Nat.le_refl _ | omega | (simp;done) | (simp;omega) | exact Nat.le_refl _) HS0.out).mono ?_
    rintro e u3 ⟨aW,nW,cW,rfl,ho,hb⟩
    rw [HDxs.out] at ho;rw [HRV.out,HRB.out]
    have hc:Below u2.heap.size u2 u3:=Below.trans (by repeat (first | with_reducible assumption | with_reducible exact Below.refl _ _ | with_reducible refine below_drewN ?_ _ | with_reducible refine Below.al ?_ (by first | with_reducible exact Nat.le_refl _ | omega | (simp;done) | (simp;omega) | exact Nat.le_refl _) _ | with_reducible refine Below.setCell ?_ (by first | with_reducible exact Nat.le_refl _ | omega | (simp;done) | (simp;omega) | exact Nat.le_refl _) _ | assumption | exact Below.refl _ _ | refine below_drewN ?_ _ | refine Below.al ?_ (by first | with_reducible exact Nat.le_refl _ | omega | (simp;done) | (simp;omega) | exact Nat.le_refl _) _ | refine Below.setCell ?_ (by first | with_reducible exact Nat.le_refl _ | omega | (simp;done) | (simp;omega) | exact Nat.le_refl _) _)) (hb.mono (by first | with_reducible exact Nat.le_refl _ | omega | (simp;done) | (simp;omega) | exact Nat.le_refl _))
    have z3:u2.heap.size≤u3.heap.size:=hc.size
    replace B0c0:u3.cell? ⟨w.heap.size,0,none⟩=some (.slice a0 n0 c0):=(by rw [(bcell hc).1 _ _ B0s];exact B0c0)
    replace B0c1:u3.cell? ⟨w.heap.size,1,none⟩=some (.slice ba0 bn0 bc0):=(by rw [(bcell hc).1 _ _ B0s];exact B0c1)
    replace B0c2:u3.cell? ⟨w.heap.size,2,none⟩=some (.slice ca0 cn0 cc0):=(by rw [(bcell hc).1 _ _ B0s];exact B0c2)
    replace B0s:w.heap.size<u3.heap.size:=(by omega)
    replace DA0:Hid (LPA false (0) w.heap.size u3 a0 n0 c0 xs0 ba0 bn0 bc0 bs0 ca0 cn0 cc0 cs0):=hid (beLP DA0.out hc (by omega))
    replace Dp0:Hid (LPA true (u1.heap.size) u2.heap.size u3 ap0 np0 cp0 xs0 bap0 bnp0 bcp0 bs0 cap0 cnp0 ccp0 cs0):=hid (beLP Dp0.out hc (by omega))
    replace HW:Hid (Below w.heap.size w u3):=hid (Below.calm HW.out hc)
    have DW:Hid (RatsA false (u1.heap.size) u3.heap.size u3 aW nW cW dxs):=hid ho
    clear ho hb hc
    go_wp2_with fail
    refine (toK_LP a0 n0 c0 xs0 ba0 bn0 bc0 bs0 ca0 cn0 cc0 cs0 _ (beLP (B:=u3.heap.size) DA0.out (by repeat (first | with_reducible assumption | with_reducible exact Below.refl _ _ | with_reducible refine below_drewN ?_ _ | with_reducible refine Below.al ?_ (by first | with_reducible exact Nat.le_refl _ | omega | (simp;done) | (simp;omega) | exact Nat.le_refl _) _ | with_reducible refine Below.setCell ?_ (by first | with_reducible exact Nat.le_refl _ | omega | (simp;done) | (simp;omega) | exact Nat.le_refl _) _ | assumption | exact Below.refl _ _ | refine below_drewN ?_ _ | refine Below.al ?_ (by first | with_reducible exact Nat.le_refl _ | omega | (simp;done) | (simp;omega) | exact Nat.le_refl _) _ | refine Below.setCell ?_ (by first | with_reducible exact Nat.le_refl _ | omega | (simp;done) | (simp;omega) | exact Nat.le_refl _) _)) (by first | with_reducible exact Nat.le_refl _ | omega | (simp;done) | (simp;omega) | exact Nat.le_refl _)) (by first | with_reducible exact Nat.le_refl _ | omega | (simp;done) | (simp;omega) | exact Nat.le_refl _) HS0.out).mono ?_
    rintro e u4 ⟨ax0,nx0,cx0,bax0,bnx0,bcx0,cax0,cnx0,ccx0,rfl,ho,hb⟩
    have hc:Below u3.heap.size u3 u4:=Below.trans (by repeat (first | with_reducible assumption | with_reducible exact Below.refl _ _ | with_reducible refine below_drewN ?_ _ | with_reducible refine Below.al ?_ (by first | with_reducible exact Nat.le_refl _ | omega | (simp;done) | (simp;omega) | exact Nat.le_refl _) _ | with_reducible refine Below.setCell ?_ (by first | with_reducible exact Nat.le_refl _ | omega | (simp;done) | (simp;omega) | exact Nat.le_refl _) _ | assumption | exact Below.refl _ _ | refine below_drewN ?_ _ | refine Below.al ?_ (by first | with_reducible exact Nat.le_refl _ | omega | (simp;done) | (simp;omega) | exact Nat.le_refl _) _ | refine Below.setCell ?_ (by first | with_reducible exact Nat.le_refl _ | omega | (simp;done) | (simp;omega) | exact Nat.le_refl _) _)) (hb.mono (by first | with_reducible exact Nat.le_refl _ | omega | (simp;done) | (simp;omega) | exact Nat.le_refl _))
    have z4:u3.heap.size≤u4.heap.size:=hc.size
    replace B0c0:u4.cell? ⟨w.heap.size,0,none⟩=some (.slice a0 n0 c0):=(by rw [(bcell hc).1 _ _ B0s];exact B0c0)
    replace B0c1:u4.cell? ⟨w.heap.size,1,none⟩=some (.slice ba0 bn0 bc0):=(by rw [(bcell hc).1 _ _ B0s];exact B0c1)
    replace B0c2:u4.cell? ⟨w.heap.size,2,none⟩=some (.slice ca0 cn0 cc0):=(by rw [(bcell hc).1 _ _ B0s];exact B0c2)
    replace B0s:w.heap.size<u4.heap.size:=(by omega)
    have B1c0:u4.cell? ⟨u3.heap.size,0,none⟩=some (.int .i64 rv.num):=(by rw [(bcell hb).1 _ _ (by first | omega | (simp;done) | (simp;omega))];first | with_reducible assumption | (go_simp;done) | assumption | (simp [World.cell?];done))
    have B1c1:u4.cell? ⟨u3.heap.size,1,none⟩=some (.int .i64 rv.den):=(by rw [(bcell hb).1 _ _ (by first | omega | (simp;done) | (simp;omega))];first | with_reducible assumption | (go_simp;done) | assumption | (simp [World.cell?];done))
    have B1p:u3.heap.size<u4.heap.size:=World.block_lt_of_cell? _ _ B1c0
    have B1s:u3.heap.size<u4.heap.size:=B1p
    replace DA0:Hid (LPA false (0) w.heap.size u4 a0 n0 c0 xs0 ba0 bn0 bc0 bs0 ca0 cn0 cc0 cs0):=hid (beLP DA0.out hc (by omega))
    replace DW:Hid (RatsA false (u1.heap.size) u3.heap.size u4 aW nW cW dxs):=hid (beRats DW.out hc (by omega))
    replace HW:Hid (Below w.heap.size w u4):=hid (Below.calm HW.out hc)
    have Dx0:Hid (LPA true (u3.heap.size+1) u4.heap.size u4 ax0 nx0 cx0 xs0 bax0 bnx0 bcx0 bs0 cax0 cnx0 ccx0 cs0):=hid (wdLP ho (by first | with_reducible exact Nat.le_refl _ | omega | (simp;done) | (simp;omega) | exact Nat.le_refl _))
    clear ho hb hc
    go_wp2_with fail
    refine (implMin (beLP (B:=u4.heap.size) Dx0.out (by repeat (first | with_reducible assumption | with_reducible exact Below.refl _ _ | with_reducible refine below_drewN ?_ _ | with_reducible refine Below.al ?_ (by first | with_reducible exact Nat.le_refl _ | omega | (simp;done) | (simp;omega) | exact Nat.le_refl _) _ | with_reducible refine Below.setCell ?_ (by first | with_reducible exact Nat.le_refl _ | omega | (simp;done) | (simp;omega) | exact Nat.le_refl _) _ | assumption | exact Below.refl _ _ | refine below_drewN ?_ _ | refine Below.al ?_ (by first | with_reducible exact Nat.le_refl _ | omega | (simp;done) | (simp;omega) | exact Nat.le_refl _) _ | refine Below.setCell ?_ (by first | with_reducible exact Nat.le_refl _ | omega | (simp;done) | (simp;omega) | exact Nat.le_refl _) _)) (by first | with_reducible exact Nat.le_refl _ | omega | (simp;done) | (simp;omega) | exact Nat.le_refl _)) (by first | with_reducible exact Nat.le_refl _ | omega | (simp;done) | (simp;omega) | exact Nat.le_refl _) HS0.out).mono ?_
    rintro e u5 ⟨aG,nG,cG,rfl,ho,hb⟩
    rw [HDxs.out] at ho;rw [HRV.out,HRB.out]
    have hc:Below u4.heap.size u4 u5:=Below.trans (by repeat (first | with_reducible assumption | with_reducible exact Below.refl _ _ | with_reducible refine below_drewN ?_ _ | with_reducible refine Below.al ?_ (by first | with_reducible exact Nat.le_refl _ | omega | (simp;done) | (simp;omega) | exact Nat.le_refl _) _ | with_reducible refine Below.setCell ?_ (by first | with_reducible exact Nat.le_refl _ | omega | (simp;done) | (simp;omega) | exact Nat.le_refl _) _ | assumption | exact Below.refl _ _ | refine below_drewN ?_ _ | refine Below.al ?_ (by first | with_reducible exact Nat.le_refl _ | omega | (simp;done) | (simp;omega) | exact Nat.le_refl _) _ | refine Below.setCell ?_ (by first | with_reducible exact Nat.le_refl _ | omega | (simp;done) | (simp;omega) | exact Nat.le_refl _) _)) (hb.mono (by first | with_reducible exact Nat.le_refl _ | omega | (simp;done) | (simp;omega) | exact Nat.le_refl _))
    have z5:u4.heap.size≤u5.heap.size:=hc.size
    replace B0c0:u5.cell? ⟨w.heap.size,0,none⟩=some (.slice a0 n0 c0):=(by rw [(bcell hc).1 _ _ B0s];exact B0c0)
    replace B0c1:u5.cell? ⟨w.heap.size,1,none⟩=some (.slice ba0 bn0 bc0):=(by rw [(bcell hc).1 _ _ B0s];exact B0c1)
    replace B0c2:u5.cell? ⟨w.heap.size,2,none⟩=some (.slice ca0 cn0 cc0):=(by rw [(bcell hc).1 _ _ B0s];exact B0c2)
    replace B0s:w.heap.size<u5.heap.size:=(by omega)
    replace B1c0:u5.cell? ⟨u3.heap.size,0,none⟩=some (.int .i64 rv.num):=(by rw [(bcell hc).1 _ _ B1s];exact B1c0)
    replace B1c1:u5.cell? ⟨u3.heap.size,1,none⟩=some (.int .i64 rv.den):=(by rw [(bcell hc).1 _ _ B1s];exact B1c1)
    replace B1s:u3.heap.size<u5.heap.size:=(by omega)
    have B2c0:u5.cell? ⟨u4.heap.size,0,none⟩=some (.slice ax0 nx0 cx0):=(by rw [(bcell hb).1 _ _ (by first | omega | (simp;done) | (simp;omega))];first | with_reducible assumption | (go_simp;done) | assumption | (simp [World.cell?];done))
    have B2c1:u5.cell? ⟨u4.heap.size,1,none⟩=some (.slice bax0 bnx0 bcx0):=(by rw [(bcell hb).1 _ _ (by first | omega | (simp;done) | (simp;omega))];first | with_reducible assumption | (go_simp;done) | assumption | (simp [World.cell?];done))
    have B2c2:u5.cell? ⟨u4.heap.size,2,none⟩=some (.slice cax0 cnx0 ccx0):=(by rw [(bcell hb).1 _ _ (by first | omega | (simp;done) | (simp;omega))];first | with_reducible assumption | (go_simp;done) | assumption | (simp [World.cell?];done))
    have B2p:u4.heap.size<u5.heap.size:=World.block_lt_of_cell? _ _ B2c0
    have B2s:u4.heap.size<u5.heap.size:=B2p
    replace DA0:Hid (LPA false (0) w.heap.size u5 a0 n0 c0 xs0 ba0 bn0 bc0 bs0 ca0 cn0 cc0 cs0):=hid (beLP DA0.out hc (by omega))
    replace DW:Hid (RatsA false (u1.heap.size) u3.heap.size u5 aW nW cW dxs):=hid (beRats DW.out hc (by omega))
    replace Dx0:Hid (LPA true (u3.heap.size+1) u4.heap.size u5 ax0 nx0 cx0 xs0 bax0 bnx0 bcx0 bs0 cax0 cnx0 ccx0 cs0):=hid (beLP Dx0.out hc (by omega))
    replace HW:Hid (Below w.heap.size w u5):=hid (Below.calm HW.out hc)
    have DG:Hid (RatsA true (u4.heap.size+1) u5.heap.size u5 aG nG cG dxs):=hid (wdRats ho (by first | with_reducible exact Nat.le_refl _ | omega | (simp;done) | (simp;omega) | exact Nat.le_refl _))
    clear ho hb hc
    go_wp2_with fail
    refine (eqRats aG aW nG cG nW cW dxs _ ((beRats (B:=u5.heap.size) DG.out (by repeat (first | with_reducible assumption | with_reducible exact Below.refl _ _ | with_reducible refine below_drewN ?_ _ | with_reducible refine Below.al ?_ (by first | with_reducible exact Nat.le_refl _ | omega | (simp;done) | (simp;omega) | exact Nat.le_refl _) _ | with_reducible refine Below.setCell ?_ (by first | with_reducible exact Nat.le_refl _ | omega | (simp;done) | (simp;omega) | exact Nat.le_refl _) _ | assumption | exact Below.refl _ _ | refine below_drewN ?_ _ | refine Below.al ?_ (by first | with_reducible exact Nat.le_refl _ | omega | (simp;done) | (simp;omega) | exact Nat.le_refl _) _ | refine Below.setCell ?_ (by first | with_reducible exact Nat.le_refl _ | omega | (simp;done) | (simp;omega) | exact Nat.le_refl _) _)) (by first | with_reducible exact Nat.le_refl _ | omega | (simp;done) | (simp;omega) | exact Nat.le_refl _))) (by first | with_reducible exact Nat.le_refl _ | omega | (simp;done) | (simp;omega) | exact Nat.le_refl _) (beRats (B:=u5.heap.size) DW.out (by repeat (first | with_reducible assumption | with_reducible exact Below.refl _ _ | with_reducible refine below_drewN ?_ _ | with_reducible refine Below.al ?_ (by first | with_reducible exact Nat.le_refl _ | omega | (simp;done) | (simp;omega) | exact Nat.le_refl _) _ | with_reducible refine Below.setCell ?_ (by first | with_reducible exact Nat.le_refl _ | omega | (simp;done) | (simp;omega) | exact Nat.le_refl _) _ | assumption | exact Below.refl _ _ | refine below_drewN ?_ _ | refine Below.al ?_ (by first | with_reducible exact Nat.le_refl _ | omega | (simp;done) | (simp;omega) | exact Nat.le_refl _) _ | refine Below.setCell ?_ (by first | with_reducible exact Nat.le_refl _ | omega | (simp;done) | (simp;omega) | exact Nat.le_refl _) _)) (by first | with_reducible exact Nat.le_refl _ | omega | (simp;done) | (simp;omega) | exact Nat.le_refl _)) (by first | with_reducible exact Nat.le_refl _ | omega | (simp;done) | (simp;omega) | exact Nat.le_refl _)).mono ?_
    rintro e u6 ⟨rfl,hb⟩
    have hc:Below u5.heap.size u5 u6:=Below.trans (by repeat (first | with_reducible assumption | with_reducible exact Below.refl _ _ | with_reducible refine below_drewN ?_ _ | with_reducible refine Below.al ?_ (by first | with_reducible exact Nat.le_refl _ | omega | (simp;done) | (simp;omega) | exact Nat.le_refl _) _ | with_reducible refine Below.setCell ?_ (by first | with_reducible exact Nat.le_refl _ | omega | (simp;done) | (simp;omega) | exact Nat.le_refl _) _ | assumption | exact Below.refl _ _ | refine below_drewN ?_ _ | refine Below.al ?_ (by first | with_reducible exact Nat.le_refl _ | omega | (simp;done) | (simp;omega) | exact Nat.le_refl _) _ | refine Below.setCell ?_ (by first | with_reducible exact Nat.le_refl _ | omega | (simp;done) | (simp;omega) | exact Nat.le_refl _) _)) (hb.mono (by first | with_reducible exact Nat.le_refl _ | omega | (simp;done) | (simp;omega) | exact Nat.le_refl _))
    have z6:u5.heap.size≤u6.heap.size:=hc.size
    replace B0c0:u6.cell? ⟨w.heap.size,0,none⟩=some (.slice a0 n0 c0):=(by rw [(bcell hc).1 _ _ B0s];exact B0c0)
    replace B0c1:u6.cell? ⟨w.heap.size,1,none⟩=some (.slice ba0 bn0 bc0):=(by rw [(bcell hc).1 _ _ B0s];exact B0c1)
    replace B0c2:u6.cell? ⟨w.heap.size,2,none⟩=some (.slice ca0 cn0 cc0):=(by rw [(bcell hc).1 _ _ B0s];exact B0c2)
    replace B0s:w.heap.size<u6.heap.size:=(by omega)
    replace B1c0:u6.cell? ⟨u3.heap.size,0,none⟩=some (.int .i64 rv.num):=(by rw [(bcell hc).1 _ _ B1s];exact B1c0)
    replace B1c1:u6.cell? ⟨u3.heap.size,1,none⟩=some (.int .i64 rv.den):=(by rw [(bcell hc).1 _ _ B1s];exact B1c1)
    replace B1s:u3.heap.size<u6.heap.size:=(by omega)
    replace B2c0:u6.cell? ⟨u4.heap.size,0,none⟩=some (.slice ax0 nx0 cx0):=(by rw [(bcell hc).1 _ _ B2s];exact B2c0)
    replace B2c1:u6.cell? ⟨u4.heap.size,1,none⟩=some (.slice bax0 bnx0 bcx0):=(by rw [(bcell hc).1 _ _ B2s];exact B2c1)
    replace B2c2:u6.cell? ⟨u4.heap.size,2,none⟩=some (.slice cax0 cnx0 ccx0):=(by rw [(bcell hc).1 _ _ B2s];exact B2c2)
    replace B2s:u4.heap.size<u6.heap.size:=(by omega)
    have B3c0:u6.cell? ⟨u5.heap.size,0,none⟩=some (.int .i64 rv.num):=(by rw [(bcell hb).1 _ _ (by first | omega | (simp;done) | (simp;omega))];first | with_reducible assumption | (go_simp;done) | assumption | (simp [World.cell?];done))
    have B3c1:u6.cell? ⟨u5.heap.size,1,none⟩=some (.int .i64 rv.den):=(by rw [(bcell hb).1 _ _ (by first | omega | (simp;done) | (simp;omega))];first | with_reducible assumption | (go_simp;done) | assumption | (simp [World.cell?];done))
    have B3p:u5.heap.size<u6.heap.size:=World.block_lt_of_cell? _ _ B3c0
    have B3s:u5.heap.size<u6.heap.size:=B3p
    replace DA0:Hid (LPA false (0) w.heap.size u6 a0 n0 c0 xs0 ba0 bn0 bc0 bs0 ca0 cn0 cc0 cs0):=hid (beLP DA0.out hc (by omega))
    replace DW:Hid (RatsA false (u1.heap.size) u3.heap.size u6 aW nW cW dxs):=hid (beRats DW.out hc (by omega))
    replace Dx0:Hid (LPA true (u3.heap.size+1) u4.heap.size u6 ax0 nx0 cx0 xs0 bax0 bnx0 bcx0 bs0 cax0 cnx0 ccx0 cs0):=hid (beLP Dx0.out hc (by omega))
    replace DG:Hid (RatsA true (u4.heap.size+1) u5.heap.size u6 aG nG cG dxs):=hid (beRats DG.out hc (by omega))
    replace HW:Hid (Below w.heap.size w u6):=hid (Below.calm HW.out hc)
    clear hb hc
    go_wp2_with fail
    refine (eqRat1 rv.num rv.den _).mono ?_
    rintro e u7 ⟨rfl,hb⟩
    have hc:Below u6.heap.size u6 u7:=Below.trans (by repeat (first | with_reducible assumption | with_reducible exact Below.refl _ _ | with_reducible refine below_drewN ?_ _ | with_reducible refine Below.al ?_ (by first | with_reducible exact Nat.le_refl _ | omega | (simp;done) | (simp;omega) | exact Nat.le_refl _) _ | with_reducible refine Below.setCell ?_ (by first | with_reducible exact Nat.le_refl _ | omega | (simp;done) | (simp;omega) | exact Nat.le_refl _) _ | assumption | exact Below.refl _ _ | refine below_drewN ?_ _ | refine Below.al ?_ (by first | with_reducible exact Nat.le_refl _ | omega | (simp;done) | (simp;omega) | exact Nat.le_refl _) _ | refine Below.setCell ?_ (by first | with_reducible exact Nat.le_refl _ | omega | (simp;done) | (simp;omega) | exact Nat.le_refl _) _)) (hb.mono (by first | with_reducible exact Nat.le_refl _ | omega | (simp;done) | (simp;omega) | exact Nat.le_refl _))
    have z7:u6.heap.size≤u7.heap.size:=hc.size
    replace B0c0:u7.cell? ⟨w.heap.size,0,none⟩=some (.slice a0 n0 c0):=(by rw [(bcell hc).1 _ _ B0s];exact B0c0)
    replace B0c1:u7.cell? ⟨w.heap.size,1,none⟩=some (.slice ba0 bn0 bc0):=(by rw [(bcell hc).1 _ _ B0s];exact B0c1)
    replace B0c2:u7.cell? ⟨w.heap.size,2,none⟩=some (.slice ca0 cn0 cc0):=(by rw [(bcell hc).1 _ _ B0s];exact B0c2)
    replace B0s:w.heap.size<u7.heap.size:=(by omega)
    replace B1c0:u7.cell? ⟨u3.heap.size,0,none⟩=some (.int .i64 rv.num):=(by rw [(bcell hc).1 _ _ B1s];exact B1c0)
    replace B1c1:u7.cell? ⟨u3.heap.size,1,none⟩=some (.int .i64 rv.den):=(by rw [(bcell hc).1 _ _ B1s];exact B1c1)
    replace B1s:u3.heap.size<u7.heap.size:=(by omega)
    replace B2c0:u7.cell? ⟨u4.heap.size,0,none⟩=some (.slice ax0 nx0 cx0):=(by rw [(bcell hc).1 _ _ B2s];exact B2c0)
    replace B2c1:u7.cell? ⟨u4.heap.size,1,none⟩=some (.slice bax0 bnx0 bcx0):=(by rw [(bcell hc).1 _ _ B2s];exact B2c1)
    replace B2c2:u7.cell? ⟨u4.heap.size,2,none⟩=some (.slice cax0 cnx0 ccx0):=(by rw [(bcell hc).1 _ _ B2s];exact B2c2)
    replace B2s:u4.heap.size<u7.heap.size:=(by omega)
    replace B3c0:u7.cell? ⟨u5.heap.size,0,none⟩=some (.int .i64 rv.num):=(by rw [(bcell hc).1 _ _ B3s];exact B3c0)
    replace B3c1:u7.cell? ⟨u5.heap.size,1,none⟩=some (.int .i64 rv.den):=(by rw [(bcell hc).1 _ _ B3s];exact B3c1)
    replace B3s:u5.heap.size<u7.heap.size:=(by omega)
    replace DA0:Hid (LPA false (0) w.heap.size u7 a0 n0 c0 xs0 ba0 bn0 bc0 bs0 ca0 cn0 cc0 cs0):=hid (beLP DA0.out hc (by omega))
    replace DW:Hid (RatsA false (u1.heap.size) u3.heap.size u7 aW nW cW dxs):=hid (beRats DW.out hc (by omega))
    replace Dx0:Hid (LPA true (u3.heap.size+1) u4.heap.size u7 ax0 nx0 cx0 xs0 bax0 bnx0 bcx0 bs0 cax0 cnx0 ccx0 cs0):=hid (beLP Dx0.out hc (by omega))
    replace DG:Hid (RatsA true (u4.heap.size+1) u5.heap.size u7 aG nG cG dxs):=hid (beRats DG.out hc (by omega))
    replace HW:Hid (Below w.heap.size w u7):=hid (Below.calm HW.out hc)
    clear hb hc
    go_wp2_with fail
    go_region_held3 (fun w'=>w'.cell? ⟨w.heap.size,0,none⟩=some (.slice a0 n0 c0)∧w'.cell? ⟨w.heap.size,1,none⟩=some (.slice ba0 bn0 bc0)∧w'.cell? ⟨w.heap.size,2,none⟩=some (.slice ca0 cn0 cc0)∧w'.cell? ⟨u3.heap.size,0,none⟩=some (.int .i64 rv.num)∧w'.cell? ⟨u3.heap.size,1,none⟩=some (.int .i64 rv.den)∧w'.cell? ⟨u4.heap.size,0,none⟩=some (.slice ax0 nx0 cx0)∧w'.cell? ⟨u4.heap.size,1,none⟩=some (.slice bax0 bnx0 bcx0)∧w'.cell? ⟨u4.heap.size,2,none⟩=some (.slice cax0 cnx0 ccx0)∧w'.cell? ⟨u5.heap.size,0,none⟩=some (.int .i64 rv.num)∧w'.cell? ⟨u5.heap.size,1,none⟩=some (.int .i64 rv.den)) (refine ⟨?_,?_,?_,?_,?_,?_,?_,?_,?_,?_⟩ <;> assumption)
      (first | (go_at_call 8;refine (toK_LP a0 n0 c0 xs0 ba0 bn0 bc0 bs0 ca0 cn0 cc0 cs0 _ (beLP (B:=u7.heap.size) DA0.out (by repeat (first | with_reducible assumption | with_reducible exact Below.refl _ _ | with_reducible refine below_drewN ?_ _ | with_reducible refine Below.al ?_ (by first | with_reducible exact Nat.le_refl _ | omega | (simp;done) | (simp;omega) | exact Nat.le_refl _) _ | with_reducible refine Below.setCell ?_ (by first | with_reducible exact Nat.le_refl _ | omega | (simp;done) | (simp;omega) | exact Nat.le_refl _) _ | assumption | exact Below.refl _ _ | refine below_drewN ?_ _ | refine Below.al ?_ (by first | with_reducible exact Nat.le_refl _ | omega | (simp;done) | (simp;omega) | exact Nat.le_refl _) _ | refine Below.setCell ?_ (by first | with_reducible exact Nat.le_refl _ | omega | (simp;done) | (simp;omega) | exact Nat.le_refl _) _)) (by first | with_reducible exact Nat.le_refl _ | omega | (simp;done) | (simp;omega) | exact Nat.le_refl _)) (by first | with_reducible exact Nat.le_refl _ | omega | (simp;done) | (simp;omega) | exact Nat.le_refl _) HS0.out).mono ?_;rintro e u8 ⟨ay0,ny0,cy0,bay0,bny0,bcy0,cay0,cny0,ccy0,rfl,ho,hb⟩;have hc:Below u7.heap.size u7 u8:=Below.trans (by repeat (first | with_reducible assumption | with_reducible exact Below.refl _ _ | with_reducible refine below_drewN ?_ _ | with_reducible refine Below.al ?_ (by first | with_reducible exact Nat.le_refl _ | omega | (simp;done) | (simp;omega) | exact Nat.le_refl _) _ | with_reducible refine Below.setCell ?_ (by first | with_reducible exact Nat.le_refl _ | omega | (simp;done) | (simp;omega) | exact Nat.le_refl _) _ | assumption | exact Below.refl _ _ | refine below_drewN ?_ _ | refine Below.al ?_ (by first | with_reducible exact Nat.le_refl _ | omega | (simp;done) | (simp;omega) | exact Nat.le_refl _) _ | refine Below.setCell ?_ (by first | with_reducible exact Nat.le_refl _ | omega | (simp;done) | (simp;omega) | exact Nat.le_refl _) _)) (hb.mono (by first | with_reducible exact Nat.le_refl _ | omega | (simp;done) | (simp;omega) | exact Nat.le_refl _));have z8:u7.heap.size≤u8.heap.size:=hc.size;replace B0c0:u8.cell? ⟨w.heap.size,0,none⟩=some (.slice a0 n0 c0):=(by rw [(bcell hc).1 _ _ B0s];exact B0c0);replace B0c1:u8.cell? ⟨w.heap.size,1,none⟩=some (.slice ba0 bn0 bc0):=(by rw [(bcell hc).1 _ _ B0s];exact B0c1);replace B0c2:u8.cell? ⟨w.heap.size,2,none⟩=some (.slice ca0 cn0 cc0):=(by rw [(bcell hc).1 _ _ B0s];exact B0c2);replace B0s:w.heap.size<u8.heap.size:=(by omega);replace B1c0:u8.cell? ⟨u3.heap.size,0,none⟩=some (.int .i64 rv.num):=(by rw [(bcell hc).1 _ _ B1s];exact B1c0);replace B1c1:u8.cell? ⟨u3.heap.size,1,none⟩=some (.int .i64 rv.den):=(by rw [(bcell hc).1 _ _ B1s];exact B1c1);replace B1s:u3.heap.size<u8.heap.size:=(by omega);replace B2c0:u8.cell? ⟨u4.heap.size,0,none⟩=some (.slice ax0 nx0 cx0):=(by rw [(bcell hc).1 _ _ B2s];exact B2c0);replace B2c1:u8.cell? ⟨u4.heap.size,1,none⟩=some (.slice bax0 bnx0 bcx0):=(by rw [(bcell hc).1 _ _ B2s];exact B2c1);replace B2c2:u8.cell? ⟨u4.heap.size,2,none⟩=some (.slice cax0 cnx0 ccx0):=(by rw [(bcell hc).1 _ _ B2s];exact B2c2);replace B2s:u4.heap.size<u8.heap.size:=(by omega);replace B3c0:u8.cell? ⟨u5.heap.size,0,none⟩=some (.int .i64 rv.num):=(by rw [(bcell hc).1 _ _ B3s];exact B3c0);replace B3c1:u8.cell? ⟨u5.heap.size,1,none⟩=some (.int .i64 rv.den):=(by rw [(bcell hc).1 _ _ B3s];exact B3c1);replace B3s:u5.heap.size<u8.heap.size:=(by omega);replace DA0:Hid (LPA false (0) w.heap.size u8 a0 n0 c0 xs0 ba0 bn0 bc0 bs0 ca0 cn0 cc0 cs0):=hid (beLP DA0.out hc (by omega));replace DW:Hid (RatsA false (u1.heap.size) u3.heap.size u8 aW nW cW dxs):=hid (beRats DW.out hc (by omega));replace Dx0:Hid (LPA true (u3.heap.size+1) u4.heap.size u8 ax0 nx0 cx0 xs0 bax0 bnx0 bcx0 bs0 cax0 cnx0 ccx0 cs0):=hid (beLP Dx0.out hc (by omega));replace DG:Hid (RatsA true (u4.heap.size+1) u5.heap.size u8 aG nG cG dxs):=hid (beRats DG.out hc (by omega));replace HW:Hid (Below w.heap.size w u8):=hid (Below.calm HW.out hc);have Dy0:Hid (LPA true (u7.heap.size) u8.heap.size u8 ay0 ny0 cy0 xs0 bay0 bny0 bcy0 bs0 cay0 cny0 ccy0 cs0):=hid (wdLP ho (by first | with_reducible exact Nat.le_refl _ | omega | (simp;done) | (simp;omega) | exact Nat.le_refl _));clear ho hb hc) | (go_at_call 11;refine (eqK_LP ax0 nx0 cx0 xs0 bax0 bnx0 bcx0 bs0 cax0 cnx0 ccx0 cs0 ay0 ny0 cy0 bay0 bny0 bcy0 cay0 cny0 ccy0 _ (beLP (B:=u8.heap.size) Dx0.out (by repeat (first | with_reducible assumption | with_reducible exact Below.refl _ _ | with_reducible refine below_drewN ?_ _ | with_reducible refine Below.al ?_ (by first | with_reducible exact Nat.le_refl _ | omega | (simp;done) | (simp;omega) | exact Nat.le_refl _) _ | with_reducible refine Below.setCell ?_ (by first | with_reducible exact Nat.le_refl _ | omega | (simp;done) | (simp;omega) | exact Nat.le_refl _) _ | assumption | exact Below.refl _ _ | refine below_drewN ?_ _ | refine Below.al ?_ (by first | with_reducible exact Nat.le_refl _ | omega | (simp;done) | (simp;omega) | exact Nat.le_refl _) _ | refine Below.setCell ?_ (by first | with_reducible exact Nat.le_refl _ | omega | (simp;done) | (simp;omega) | exact Nat.le_refl _) _)) (by first | with_reducible exact Nat.le_refl _ | omega | (simp;done) | (simp;omega) | exact Nat.le_refl _)) (by first | with_reducible exact Nat.le_refl _ | omega | (simp;done) | (simp;omega) | exact Nat.le_refl _) (beLP (B:=u8.heap.size) Dy0.out (by repeat (first | with_reducible assumption | with_reducible exact Below.refl _ _ | with_reducible refine below_drewN ?_ _ | with_reducible refine Below.al ?_ (by first | with_reducible exact Nat.le_refl _ | omega | (simp;done) | (simp;omega) | exact Nat.le_refl _) _ | with_reducible refine Below.setCell ?_ (by first | with_reducible exact Nat.le_refl _ | omega | (simp;done) | (simp;omega) | exact Nat.le_refl _) _ | assumption | exact Below.refl _ _ | refine below_drewN ?_ _ | refine Below.al ?_ (by first | with_reducible exact Nat.le_refl _ | omega | (simp;done) | (simp;omega) | exact Nat.le_refl _) _ | refine Below.setCell ?_ (by first | with_reducible exact Nat.le_refl _ | omega | (simp;done) | (simp;omega) | exact Nat.le_refl _) _)) (by first | with_reducible exact Nat.le_refl _ | omega | (simp;done) | (simp;omega) | exact Nat.le_refl _)) (by first | with_reducible exact Nat.le_refl _ | omega | (simp;done) | (simp;omega) | exact Nat.le_refl _)).mono ?_;rintro e u9 ⟨rfl,hb⟩;have hc:Below u8.heap.size u8 u9:=Below.trans (by repeat (first | with_reducible assumption | with_reducible exact Below.refl _ _ | with_reducible refine below_drewN ?_ _ | with_reducible refine Below.al ?_ (by first | with_reducible exact Nat.le_refl _ | omega | (simp;done) | (simp;omega) | exact Nat.le_refl _) _ | with_reducible refine Below.setCell ?_ (by first | with_reducible exact Nat.le_refl _ | omega | (simp;done) | (simp;omega) | exact Nat.le_refl _) _ | assumption | exact Below.refl _ _ | refine below_drewN ?_ _ | refine Below.al ?_ (by first | with_reducible exact Nat.le_refl _ | omega | (simp;done) | (simp;omega) | exact Nat.le_refl _) _ | refine Below.setCell ?_ (by first | with_reducible exact Nat.le_refl _ | omega | (simp;done) | (simp;omega) | exact Nat.le_refl _) _)) (hb.mono (by first | with_reducible exact Nat.le_refl _ | omega | (simp;done) | (simp;omega) | exact Nat.le_refl _));have z9:u8.heap.size≤u9.heap.size:=hc.size;replace B0c0:u9.cell? ⟨w.heap.size,0,none⟩=some (.slice a0 n0 c0):=(by rw [(bcell hc).1 _ _ B0s];exact B0c0);replace B0c1:u9.cell? ⟨w.heap.size,1,none⟩=some (.slice ba0 bn0 bc0):=(by rw [(bcell hc).1 _ _ B0s];exact B0c1);replace B0c2:u9.cell? ⟨w.heap.size,2,none⟩=some (.slice ca0 cn0 cc0):=(by rw [(bcell hc).1 _ _ B0s];exact B0c2);replace B0s:w.heap.size<u9.heap.size:=(by omega);replace B1c0:u9.cell? ⟨u3.heap.size,0,none⟩=some (.int .i64 rv.num):=(by rw [(bcell hc).1 _ _ B1s];exact B1c0);replace B1c1:u9.cell? ⟨u3.heap.size,1,none⟩=some (.int .i64 rv.den):=(by rw [(bcell hc).1 _ _ B1s];exact B1c1);replace B1s:u3.heap.size<u9.heap.size:=(by omega);replace B2c0:u9.cell? ⟨u4.heap.size,0,none⟩=some (.slice ax0 nx0 cx0):=(by rw [(bcell hc).1 _ _ B2s];exact B2c0);replace B2c1:u9.cell? ⟨u4.heap.size,1,none⟩=some (.slice bax0 bnx0 bcx0):=(by rw [(bcell hc).1 _ _ B2s];exact B2c1);replace B2c2:u9.cell? ⟨u4.heap.size,2,none⟩=some (.slice cax0 cnx0 ccx0):=(by rw [(bcell hc).1 _ _ B2s];exact B2c2);replace B2s:u4.heap.size<u9.heap.size:=(by omega);replace B3c0:u9.cell? ⟨u5.heap.size,0,none⟩=some (.int .i64 rv.num):=(by rw [(bcell hc).1 _ _ B3s];exact B3c0);replace B3c1:u9.cell? ⟨u5.heap.size,1,none⟩=some (.int .i64 rv.den):=(by rw [(bcell hc).1 _ _ B3s];exact B3c1);replace B3s:u5.heap.size<u9.heap.size:=(by omega);replace DA0:Hid (LPA false (0) w.heap.size u9 a0 n0 c0 xs0 ba0 bn0 bc0 bs0 ca0 cn0 cc0 cs0):=hid (beLP DA0.out hc (by omega));replace DW:Hid (RatsA false (u1.heap.size) u3.heap.size u9 aW nW cW dxs):=hid (beRats DW.out hc (by omega));replace Dx0:Hid (LPA true (u3.heap.size+1) u4.heap.size u9 ax0 nx0 cx0 xs0 bax0 bnx0 bcx0 bs0 cax0 cnx0 ccx0 cs0):=hid (beLP Dx0.out hc (by omega));replace DG:Hid (RatsA true (u4.heap.size+1) u5.heap.size u9 aG nG cG dxs):=hid (beRats DG.out hc (by omega));replace HW:Hid (Below w.heap.size w u9):=hid (Below.calm HW.out hc);clear hb hc))
    have hkb:(0:Int)≤1∧(1:Int)≤1:=by omega
    have hcl0:cntLP xs0 bs0 cs0≤2097152:=by have h1:=HS0.out;have h2:cntLP xs0 bs0 cs0≤szLP xs0 bs0 cs0*2:=(cntLP_le _ _ _);omega
    obtain ⟨k1,hk1⟩:∃ k:Int,k=1+(cntLP xs0 bs0 cs0:Nat):=⟨_,rfl⟩
    have hkb1:0≤k1∧k1≤2097153:=by omega
    have HK1:=hid hk1;clear hk1 hcl0
    go_wp2_with fail
    refine (markK_LP ax0 nx0 cx0 xs0 bax0 bnx0 bcx0 bs0 cax0 cnx0 ccx0 cs0 1 _ (beLP (B:=u9.heap.size) Dx0.out (by repeat (first | with_reducible assumption | with_reducible exact Below.refl _ _ | with_reducible refine below_drewN ?_ _ | with_reducible refine Below.al ?_ (by first | with_reducible exact Nat.le_refl _ | omega | (simp;done) | (simp;omega) | exact Nat.le_refl _) _ | with_reducible refine Below.setCell ?_ (by first | with_reducible exact Nat.le_refl _ | omega | (simp;done) | (simp;omega) | exact Nat.le_refl _) _ | assumption | exact Below.refl _ _ | refine below_drewN ?_ _ | refine Below.al ?_ (by first | with_reducible exact Nat.le_refl _ | omega | (simp;done) | (simp;omega) | exact Nat.le_refl _) _ | refine Below.setCell ?_ (by first | with_reducible exact Nat.le_refl _ | omega | (simp;done) | (simp;omega) | exact Nat.le_refl _) _)) (by first | with_reducible exact Nat.le_refl _ | omega | (simp;done) | (simp;omega) | exact Nat.le_refl _)) (by first | with_reducible exact Nat.le_refl _ | omega | (simp;done) | (simp;omega) | exact Nat.le_refl _) (by omega) (by omega) HS0.out).mono ?_
    rintro e u10 ⟨rfl,hm⟩
    rw [← HK1.out]
    have z10:u9.heap.size≤u10.heap.size:=hm.size
    replace B0c0:u10.cell? ⟨w.heap.size,0,none⟩=some (.slice a0 n0 c0):=(by rw [boxG hm _ B0s (by omega)];exact B0c0)
    replace B0c1:u10.cell? ⟨w.heap.size,1,none⟩=some (.slice ba0 bn0 bc0):=(by rw [boxG hm _ B0s (by omega)];exact B0c1)
    replace B0c2:u10.cell? ⟨w.heap.size,2,none⟩=some (.slice ca0 cn0 cc0):=(by rw [boxG hm _ B0s (by omega)];exact B0c2)
    replace B0s:w.heap.size<u10.heap.size:=(by omega)
    replace B1c0:u10.cell? ⟨u3.heap.size,0,none⟩=some (.int .i64 rv.num):=(by rw [boxG hm _ B1s (by omega)];exact B1c0)
    replace B1c1:u10.cell? ⟨u3.heap.size,1,none⟩=some (.int .i64 rv.den):=(by rw [boxG hm _ B1s (by omega)];exact B1c1)
    replace B1s:u3.heap.size<u10.heap.size:=(by omega)
    replace B2c0:u10.cell? ⟨u4.heap.size,0,none⟩=some (.slice ax0 nx0 cx0):=(by rw [boxG hm _ B2s (by omega)];exact B2c0)
    replace B2c1:u10.cell? ⟨u4.heap.size,1,none⟩=some (.slice bax0 bnx0 bcx0):=(by rw [boxG hm _ B2s (by omega)];exact B2c1)
    replace B2c2:u10.cell? ⟨u4.heap.size,2,none⟩=some (.slice cax0 cnx0 ccx0):=(by rw [boxG hm _ B2s (by omega)];exact B2c2)
    replace B2s:u4.heap.size<u10.heap.size:=(by omega)
    replace B3c0:u10.cell? ⟨u5.heap.size,0,none⟩=some (.int .i64 rv.num):=(by rw [boxG hm _ B3s (by omega)];exact B3c0)
    replace B3c1:u10.cell? ⟨u5.heap.size,1,none⟩=some (.int .i64 rv.den):=(by rw [boxG hm _ B3s (by omega)];exact B3c1)
    replace B3s:u5.heap.size<u10.heap.size:=(by omega)
    replace DA0:Hid (LPA false (0) w.heap.size u10 a0 n0 c0 xs0 ba0 bn0 bc0 bs0 ca0 cn0 cc0 cs0):=hid (kpLP DA0.out (hm.keeps (by omega) (by omega)))
    replace DW:Hid (RatsA false (u1.heap.size) u3.heap.size u10 aW nW cW dxs):=hid (kpRats DW.out (hm.keeps (by omega) (by omega)))
    replace DG:Hid (RatsA true (u4.heap.size+1) u5.heap.size u10 aG nG cG dxs):=hid (kpRats DG.out (hm.keeps (by omega) (by omega)))
    replace HW:Hid (Below w.heap.size w u10):=hid (HW.out.trans (hm.below (by omega) (by omega)))
    clear hm
    go_wp2_with fail
    refine (eqRats aG aW nG cG nW cW dxs _ ((beRats (B:=u10.heap.size) DG.out (by repeat (first | with_reducible assumption | with_reducible exact Below.refl _ _ | with_reducible refine below_drewN ?_ _ | with_reducible refine Below.al ?_ (by first | with_reducible exact Nat.le_refl _ | omega | (simp;done) | (simp;omega) | exact Nat.le_refl _) _ | with_reducible refine Below.setCell ?_ (by first | with_reducible exact Nat.le_refl _ | omega | (simp;done) | (simp;omega) | exact Nat.le_refl _) _ | assumption | exact Below.refl _ _ | refine below_drewN ?_ _ | refine Below.al ?_ (by first | with_reducible exact Nat.le_refl _ | omega | (simp;done) | (simp;omega) | exact Nat.le_refl _) _ | refine Below.setCell ?_ (by first | with_reducible exact Nat.le_refl _ | omega | (simp;done) | (simp;omega) | exact Nat.le_refl _) _)) (by first | with_reducible exact Nat.le_refl _ | omega | (simp;done) | (simp;omega) | exact Nat.le_refl _))) (by first | with_reducible exact Nat.le_refl _ | omega | (simp;done) | (simp;omega) | exact Nat.le_refl _) (beRats (B:=u10.heap.size) DW.out (by repeat (first | with_reducible assumption | with_reducible exact Below.refl _ _ | with_reducible refine below_drewN ?_ _ | with_reducible refine Below.al ?_ (by first | with_reducible exact Nat.le_refl _ | omega | (simp;done) | (simp;omega) | exact Nat.le_refl _) _ | with_reducible refine Below.setCell ?_ (by first | with_reducible exact Nat.le_refl _ | omega | (simp;done) | (simp;omega) | exact Nat.le_refl _) _ | assumption | exact Below.refl _ _ | refine below_drewN ?_ _ | refine Below.al ?_ (by first | with_reducible exact Nat.le_refl _ | omega | (simp;done) | (simp;omega) | exact Nat.le_refl _) _ | refine Below.setCell ?_ (by first | with_reducible exact Nat.le_refl _ | omega | (simp;done) | (simp;omega) | exact Nat.le_refl _) _)) (by first | with_reducible exact Nat.le_refl _ | omega | (simp;done) | (simp;omega) | exact Nat.le_refl _)) (by first | with_reducible exact Nat.le_refl _ | omega | (simp;done) | (simp;omega) | exact Nat.le_refl _)).mono ?_
    rintro e u11 ⟨rfl,hb⟩
    have hc:Below u10.heap.size u10 u11:=Below.trans (by repeat (first | with_reducible assumption | with_reducible exact Below.refl _ _ | with_reducible refine below_drewN ?_ _ | with_reducible refine Below.al ?_ (by first | with_reducible exact Nat.le_refl _ | omega | (simp;done) | (simp;omega) | exact Nat.le_refl _) _ | with_reducible refine Below.setCell ?_ (by first | with_reducible exact Nat.le_refl _ | omega | (simp;done) | (simp;omega) | exact Nat.le_refl _) _ | assumption | exact Below.refl _ _ | refine below_drewN ?_ _ | refine Below.al ?_ (by first | with_reducible exact Nat.le_refl _ | omega | (simp;done) | (simp;omega) | exact Nat.le_refl _) _ | refine Below.setCell ?_ (by first | with_reducible exact Nat.le_refl _ | omega | (simp;done) | (simp;omega) | exact Nat.le_refl _) _)) (hb.mono (by first | with_reducible exact Nat.le_refl _ | omega | (simp;done) | (simp;omega) | exact Nat.le_refl _))
    have z11:u10.heap.size≤u11.heap.size:=hc.size
    replace B0c0:u11.cell? ⟨w.heap.size,0,none⟩=some (.slice a0 n0 c0):=(by rw [(bcell hc).1 _ _ B0s];exact B0c0)
    replace B0c1:u11.cell? ⟨w.heap.size,1,none⟩=some (.slice ba0 bn0 bc0):=(by rw [(bcell hc).1 _ _ B0s];exact B0c1)
    replace B0c2:u11.cell? ⟨w.heap.size,2,none⟩=some (.slice ca0 cn0 cc0):=(by rw [(bcell hc).1 _ _ B0s];exact B0c2)
    replace B0s:w.heap.size<u11.heap.size:=(by omega)
    replace B1c0:u11.cell? ⟨u3.heap.size,0,none⟩=some (.int .i64 rv.num):=(by rw [(bcell hc).1 _ _ B1s];exact B1c0)
    replace B1c1:u11.cell? ⟨u3.heap.size,1,none⟩=some (.int .i64 rv.den):=(by rw [(bcell hc).1 _ _ B1s];exact B1c1)
    replace B1s:u3.heap.size<u11.heap.size:=(by omega)
    replace B2c0:u11.cell? ⟨u4.heap.size,0,none⟩=some (.slice ax0 nx0 cx0):=(by rw [(bcell hc).1 _ _ B2s];exact B2c0)
    replace B2c1:u11.cell? ⟨u4.heap.size,1,none⟩=some (.slice bax0 bnx0 bcx0):=(by rw [(bcell hc).1 _ _ B2s];exact B2c1)
    replace B2c2:u11.cell? ⟨u4.heap.size,2,none⟩=some (.slice cax0 cnx0 ccx0):=(by rw [(bcell hc).1 _ _ B2s];exact B2c2)
    replace B2s:u4.heap.size<u11.heap.size:=(by omega)
    replace B3c0:u11.cell? ⟨u5.heap.size,0,none⟩=some (.int .i64 rv.num):=(by rw [(bcell hc).1 _ _ B3s];exact B3c0)
    replace B3c1:u11.cell? ⟨u5.heap.size,1,none⟩=some (.int .i64 rv.den):=(by rw [(bcell hc).1 _ _ B3s];exact B3c1)
    replace B3s:u5.heap.size<u11.heap.size:=(by omega)
    replace DA0:Hid (LPA false (0) w.heap.size u11 a0 n0 c0 xs0 ba0 bn0 bc0 bs0 ca0 cn0 cc0 cs0):=hid (beLP DA0.out hc (by omega))
    replace DW:Hid (RatsA false (u1.heap.size) u3.heap.size u11 aW nW cW dxs):=hid (beRats DW.out hc (by omega))
    replace DG:Hid (RatsA true (u4.heap.size+1) u5.heap.size u11 aG nG cG dxs):=hid (beRats DG.out hc (by omega))
    replace HW:Hid (Below w.heap.size w u11):=hid (Below.calm HW.out hc)
    clear hb hc
    go_wp2_with fail
    refine (eqRat1 rv.num rv.den _).mono ?_
    rintro e u12 ⟨rfl,hb⟩
    have hc:Below u11.heap.size u11 u12:=Below.trans (by repeat (first | with_reducible assumption | with_reducible exact Below.refl _ _ | with_reducible refine below_drewN ?_ _ | with_reducible refine Below.al ?_ (by first | with_reducible exact Nat.le_refl _ | omega | (simp;done) | (simp;omega) | exact Nat.le_refl _) _ | with_reducible refine Below.setCell ?_ (by first | with_reducible exact Nat.le_refl _ | omega | (simp;done) | (simp;omega) | exact Nat.le_refl _) _ | assumption | exact Below.refl _ _ | refine below_drewN ?_ _ | refine Below.al ?_ (by first | with_reducible exact Nat.le_refl _ | omega | (simp;done) | (simp;omega) | exact Nat.le_refl _) _ | refine Below.setCell ?_ (by first | with_reducible exact Nat.le_refl _ | omega | (simp;done) | (simp;omega) | exact Nat.le_refl _) _)) (hb.mono (by first | with_reducible exact Nat.le_refl _ | omega | (simp;done) | (simp;omega) | exact Nat.le_refl _))
    have z12:u11.heap.size≤u12.heap.size:=hc.size
    replace B0c0:u12.cell? ⟨w.heap.size,0,none⟩=some (.slice a0 n0 c0):=(by rw [(bcell hc).1 _ _ B0s];exact B0c0)
    replace B0c1:u12.cell? ⟨w.heap.size,1,none⟩=some (.slice ba0 bn0 bc0):=(by rw [(bcell hc).1 _ _ B0s];exact B0c1)
    replace B0c2:u12.cell? ⟨w.heap.size,2,none⟩=some (.slice ca0 cn0 cc0):=(by rw [(bcell hc).1 _ _ B0s];exact B0c2)
    replace B0s:w.heap.size<u12.heap.size:=(by omega)
    replace B1c0:u12.cell? ⟨u3.heap.size,0,none⟩=some (.int .i64 rv.num):=(by rw [(bcell hc).1 _ _ B1s];exact B1c0)
    replace B1c1:u12.cell? ⟨u3.heap.size,1,none⟩=some (.int .i64 rv.den):=(by rw [(bcell hc).1 _ _ B1s];exact B1c1)
    replace B1s:u3.heap.size<u12.heap.size:=(by omega)
    replace B2c0:u12.cell? ⟨u4.heap.size,0,none⟩=some (.slice ax0 nx0 cx0):=(by rw [(bcell hc).1 _ _ B2s];exact B2c0)
    replace B2c1:u12.cell? ⟨u4.heap.size,1,none⟩=some (.slice bax0 bnx0 bcx0):=(by rw [(bcell hc).1 _ _ B2s];exact B2c1)
    replace B2c2:u12.cell? ⟨u4.heap.size,2,none⟩=some (.slice cax0 cnx0 ccx0):=(by rw [(bcell hc).1 _ _ B2s];exact B2c2)
    replace B2s:u4.heap.size<u12.heap.size:=(by omega)
    replace B3c0:u12.cell? ⟨u5.heap.size,0,none⟩=some (.int .i64 rv.num):=(by rw [(bcell hc).1 _ _ B3s];exact B3c0)
    replace B3c1:u12.cell? ⟨u5.heap.size,1,none⟩=some (.int .i64 rv.den):=(by rw [(bcell hc).1 _ _ B3s];exact B3c1)
    replace B3s:u5.heap.size<u12.heap.size:=(by omega)
    replace DA0:Hid (LPA false (0) w.heap.size u12 a0 n0 c0 xs0 ba0 bn0 bc0 bs0 ca0 cn0 cc0 cs0):=hid (beLP DA0.out hc (by omega))
    replace DW:Hid (RatsA false (u1.heap.size) u3.heap.size u12 aW nW cW dxs):=hid (beRats DW.out hc (by omega))
    replace DG:Hid (RatsA true (u4.heap.size+1) u5.heap.size u12 aG nG cG dxs):=hid (beRats DG.out hc (by omega))
    replace HW:Hid (Below w.heap.size w u12):=hid (Below.calm HW.out hc)
    clear hb hc
    have HSG:Hid (dxs.length≤1048576):=hid (by rw [← HDxs.out];exact mn_sz xs0 bs0 cs0)
    obtain ⟨lenG,hlenG⟩:∃ l,l=(dxs.length*2):=⟨_,rfl⟩
    have HLG:=hid hlenG;clear hlenG
    obtain ⟨km,hkm⟩:∃ k:Int,k=1+(lenG:Nat):=⟨_,rfl⟩
    have hkmb:0≤km:=by omega
    have hkne:(km != km)=false:=by simp
    have HKM:=hid hkm;clear hkm
    go_wp2_with fail
    refine (resK_Rats aG nG cG dxs 1 _ (beRats (B:=u12.heap.size) DG.out (by repeat (first | with_reducible assumption | with_reducible exact Below.refl _ _ | with_reducible refine below_drewN ?_ _ | with_reducible refine Below.al ?_ (by first | with_reducible exact Nat.le_refl _ | omega | (simp;done) | (simp;omega) | exact Nat.le_refl _) _ | with_reducible refine Below.setCell ?_ (by first | with_reducible exact Nat.le_refl _ | omega | (simp;done) | (simp;omega) | exact Nat.le_refl _) _ | assumption | exact Below.refl _ _ | refine below_drewN ?_ _ | refine Below.al ?_ (by first | with_reducible exact Nat.le_refl _ | omega | (simp;done) | (simp;omega) | exact Nat.le_refl _) _ | refine Below.setCell ?_ (by first | with_reducible exact Nat.le_refl _ | omega | (simp;done) | (simp;omega) | exact Nat.le_refl _) _)) (by first | with_reducible exact Nat.le_refl _ | omega | (simp;done) | (simp;omega) | exact Nat.le_refl _)) (by first | with_reducible exact Nat.le_refl _ | omega | (simp;done) | (simp;omega) | exact Nat.le_refl _) (by omega) (by omega) HSG.out).mono ?_
    rintro e u13 ⟨rfl,hm,ho⟩
    rw [← HLG.out];rw [← HKM.out]
    have z13:u12.heap.size≤u13.heap.size:=hm.size
    replace B0c0:u13.cell? ⟨w.heap.size,0,none⟩=some (.slice a0 n0 c0):=(by rw [boxG hm _ B0s (by omega)];exact B0c0)
    replace B0c1:u13.cell? ⟨w.heap.size,1,none⟩=some (.slice ba0 bn0 bc0):=(by rw [boxG hm _ B0s (by omega)];exact B0c1)
    replace B0c2:u13.cell? ⟨w.heap.size,2,none⟩=some (.slice ca0 cn0 cc0):=(by rw [boxG hm _ B0s (by omega)];exact B0c2)
    replace B0s:w.heap.size<u13.heap.size:=(by omega)
    replace B1c0:u13.cell? ⟨u3.heap.size,0,none⟩=some (.int .i64 rv.num):=(by rw [boxG hm _ B1s (by omega)];exact B1c0)
    replace B1c1:u13.cell? ⟨u3.heap.size,1,none⟩=some (.int .i64 rv.den):=(by rw [boxG hm _ B1s (by omega)];exact B1c1)
    replace B1s:u3.heap.size<u13.heap.size:=(by omega)
    replace B2c0:u13.cell? ⟨u4.heap.size,0,none⟩=some (.slice ax0 nx0 cx0):=(by rw [boxG hm _ B2s (by omega)];exact B2c0)
    replace B2c1:u13.cell? ⟨u4.heap.size,1,none⟩=some (.slice bax0 bnx0 bcx0):=(by rw [boxG hm _ B2s (by omega)];exact B2c1)
    replace B2c2:u13.cell? ⟨u4.heap.size,2,none⟩=some (.slice cax0 cnx0 ccx0):=(by rw [boxG hm _ B2s (by omega)];exact B2c2)
    replace B2s:u4.heap.size<u13.heap.size:=(by omega)
    replace B3c0:u13.cell? ⟨u5.heap.size,0,none⟩=some (.int .i64 rv.num):=(by rw [boxG hm _ B3s (by omega)];exact B3c0)
    replace B3c1:u13.cell? ⟨u5.heap.size,1,none⟩=some (.int .i64 rv.den):=(by rw [boxG hm _ B3s (by omega)];exact B3c1)
    replace B3s:u5.heap.size<u13.heap.size:=(by omega)
    replace DA0:Hid (LPA false (0) w.heap.size u13 a0 n0 c0 xs0 ba0 bn0 bc0 bs0 ca0 cn0 cc0 cs0):=hid (kpLP DA0.out (hm.keeps (by omega) (by omega)))
    replace DW:Hid (RatsA false (u1.heap.size) u3.heap.size u13 aW nW cW dxs):=hid (kpRats DW.out (hm.keeps (by omega) (by omega)))
    replace HW:Hid (Below w.heap.size w u13):=hid (HW.out.trans (hm.below (by omega) (by omega)))
    have DM:Hid (RatsA true (u4.heap.size+1) u5.heap.size u13 aG nG cG (mkRats 1 (dxs).length)):=hid ho
    clear ho hm
    go_wp2_with fail
    refine (heldK_Rats aG nG cG dxs 1 _ (beRats (B:=u13.heap.size) DM.out (by repeat (first | with_reducible assumption | with_reducible exact Below.refl _ _ | with_reducible refine below_drewN ?_ _ | with_reducible refine Below.al ?_ (by first | with_reducible exact Nat.le_refl _ | omega | (simp;done) | (simp;omega) | exact Nat.le_refl _) _ | with_reducible refine Below.setCell ?_ (by first | with_reducible exact Nat.le_refl _ | omega | (simp;done) | (simp;omega) | exact Nat.le_refl _) _ | assumption | exact Below.refl _ _ | refine below_drewN ?_ _ | refine Below.al ?_ (by first | with_reducible exact Nat.le_refl _ | omega | (simp;done) | (simp;omega) | exact Nat.le_refl _) _ | refine Below.setCell ?_ (by first | with_reducible exact Nat.le_refl _ | omega | (simp;done) | (simp;omega) | exact Nat.le_refl _) _)) (by first | with_reducible exact Nat.le_refl _ | omega | (simp;done) | (simp;omega) | exact Nat.le_refl _)) (by first | with_reducible exact Nat.le_refl _ | omega | (simp;done) | (simp;omega) | exact Nat.le_refl _) (by omega) (by omega) HSG.out).mono ?_
    rintro e u14 ⟨rfl,hb⟩
    rw [← HLG.out,← HKM.out]
    have hc:Below u13.heap.size u13 u14:=Below.trans (by repeat (first | with_reducible assumption | with_reducible exact Below.refl _ _ | with_reducible refine below_drewN ?_ _ | with_reducible refine Below.al ?_ (by first | with_reducible exact Nat.le_refl _ | omega | (simp;done) | (simp;omega) | exact Nat.le_refl _) _ | with_reducible refine Below.setCell ?_ (by first | with_reducible exact Nat.le_refl _ | omega | (simp;done) | (simp;omega) | exact Nat.le_refl _) _ | assumption | exact Below.refl _ _ | refine below_drewN ?_ _ | refine Below.al ?_ (by first | with_reducible exact Nat.le_refl _ | omega | (simp;done) | (simp;omega) | exact Nat.le_refl _) _ | refine Below.setCell ?_ (by first | with_reducible exact Nat.le_refl _ | omega | (simp;done) | (simp;omega) | exact Nat.le_refl _) _)) (hb.mono (by first | with_reducible exact Nat.le_refl _ | omega | (simp;done) | (simp;omega) | exact Nat.le_refl _))
    have z14:u13.heap.size≤u14.heap.size:=hc.size
    replace B0c0:u14.cell? ⟨w.heap.size,0,none⟩=some (.slice a0 n0 c0):=(by rw [(bcell hc).1 _ _ B0s];exact B0c0)
    replace B0c1:u14.cell? ⟨w.heap.size,1,none⟩=some (.slice ba0 bn0 bc0):=(by rw [(bcell hc).1 _ _ B0s];exact B0c1)
    replace B0c2:u14.cell? ⟨w.heap.size,2,none⟩=some (.slice ca0 cn0 cc0):=(by rw [(bcell hc).1 _ _ B0s];exact B0c2)
    replace B0s:w.heap.size<u14.heap.size:=(by omega)
    replace B1c0:u14.cell? ⟨u3.heap.size,0,none⟩=some (.int .i64 rv.num):=(by rw [(bcell hc).1 _ _ B1s];exact B1c0)
    replace B1c1:u14.cell? ⟨u3.heap.size,1,none⟩=some (.int .i64 rv.den):=(by rw [(bcell hc).1 _ _ B1s];exact B1c1)
    replace B1s:u3.heap.size<u14.heap.size:=(by omega)
    replace B2c0:u14.cell? ⟨u4.heap.size,0,none⟩=some (.slice ax0 nx0 cx0):=(by rw [(bcell hc).1 _ _ B2s];exact B2c0)
    replace B2c1:u14.cell? ⟨u4.heap.size,1,none⟩=some (.slice bax0 bnx0 bcx0):=(by rw [(bcell hc).1 _ _ B2s];exact B2c1)
    replace B2c2:u14.cell? ⟨u4.heap.size,2,none⟩=some (.slice cax0 cnx0 ccx0):=(by rw [(bcell hc).1 _ _ B2s];exact B2c2)
    replace B2s:u4.heap.size<u14.heap.size:=(by omega)
    replace B3c0:u14.cell? ⟨u5.heap.size,0,none⟩=some (.int .i64 rv.num):=(by rw [(bcell hc).1 _ _ B3s];exact B3c0)
    replace B3c1:u14.cell? ⟨u5.heap.size,1,none⟩=some (.int .i64 rv.den):=(by rw [(bcell hc).1 _ _ B3s];exact B3c1)
    replace B3s:u5.heap.size<u14.heap.size:=(by omega)
    replace DA0:Hid (LPA false (0) w.heap.size u14 a0 n0 c0 xs0 ba0 bn0 bc0 bs0 ca0 cn0 cc0 cs0):=hid (beLP DA0.out hc (by omega))
    replace DW:Hid (RatsA false (u1.heap.size) u3.heap.size u14 aW nW cW dxs):=hid (beRats DW.out hc (by omega))
    replace DM:Hid (RatsA true (u4.heap.size+1) u5.heap.size u14 aG nG cG (mkRats 1 (dxs).length)):=hid (beRats DM.out hc (by omega))
    replace HW:Hid (Below w.heap.size w u14):=hid (Below.calm HW.out hc)
    clear hb hc
    go_wp2_with fail
    refine (toK_LP a0 n0 c0 xs0 ba0 bn0 bc0 bs0 ca0 cn0 cc0 cs0 _ (beLP (B:=u14.heap.size) DA0.out (by repeat (first | with_reducible assumption | with_reducible exact Below.refl _ _ | with_reducible refine below_drewN ?_ _ | with_reducible refine Below.al ?_ (by first | with_reducible exact Nat.le_refl _ | omega | (simp;done) | (simp;omega) | exact Nat.le_refl _) _ | with_reducible refine Below.setCell ?_ (by first | with_reducible exact Nat.le_refl _ | omega | (simp;done) | (simp;omega) | exact Nat.le_refl _) _ | assumption | exact Below.refl _ _ | refine below_drewN ?_ _ | refine Below.al ?_ (by first | with_reducible exact Nat.le_refl _ | omega | (simp;done) | (simp;omega) | exact Nat.le_refl _) _ | refine Below.setCell ?_ (by first | with_reducible exact Nat.le_refl _ | omega | (simp;done) | (simp;omega) | exact Nat.le_refl _) _)) (by first | with_reducible exact Nat.le_refl _ | omega | (simp;done) | (simp;omega) | exact Nat.le_refl _)) (by first | with_reducible exact Nat.le_refl _ | omega | (simp;done) | (simp;omega) | exact Nat.le_refl _) HS0.out).mono ?_
    rintro e u15 ⟨ah0,nh0,ch0,bah0,bnh0,bch0,cah0,cnh0,cch0,rfl,ho,hb⟩
    have hc:Below u14.heap.size u14 u15:=Below.trans (by repeat (first | with_reducible assumption | with_reducible exact Below.refl _ _ | with_reducible refine below_drewN ?_ _ | with_reducible refine Below.al ?_ (by first | with_reducible exact Nat.le_refl _ | omega | (simp;done) | (simp;omega) | exact Nat.le_refl _) _ | with_reducible refine Below.setCell ?_ (by first | with_reducible exact Nat.le_refl _ | omega | (simp;done) | (simp;omega) | exact Nat.le_refl _) _ | assumption | exact Below.refl _ _ | refine below_drewN ?_ _ | refine Below.al ?_ (by first | with_reducible exact Nat.le_refl _ | omega | (simp;done) | (simp;omega) | exact Nat.le_refl _) _ | refine Below.setCell ?_ (by first | with_reducible exact Nat.le_refl _ | omega | (simp;done) | (simp;omega) | exact Nat.le_refl _) _)) (hb.mono (by first | with_reducible exact Nat.le_refl _ | omega | (simp;done) | (simp;omega) | exact Nat.le_refl _))
    have z15:u14.heap.size≤u15.heap.size:=hc.size
    replace B0c0:u15.cell? ⟨w.heap.size,0,none⟩=some (.slice a0 n0 c0):=(by rw [(bcell hc).1 _ _ B0s];exact B0c0)
    replace B0c1:u15.cell? ⟨w.heap.size,1,none⟩=some (.slice ba0 bn0 bc0):=(by rw [(bcell hc).1 _ _ B0s];exact B0c1)
    replace B0c2:u15.cell? ⟨w.heap.size,2,none⟩=some (.slice ca0 cn0 cc0):=(by rw [(bcell hc).1 _ _ B0s];exact B0c2)
    replace B0s:w.heap.size<u15.heap.size:=(by omega)
    replace B1c0:u15.cell? ⟨u3.heap.size,0,none⟩=some (.int .i64 rv.num):=(by rw [(bcell hc).1 _ _ B1s];exact B1c0)
    replace B1c1:u15.cell? ⟨u3.heap.size,1,none⟩=some (.int .i64 rv.den):=(by rw [(bcell hc).1 _ _ B1s];exact B1c1)
    replace B1s:u3.heap.size<u15.heap.size:=(by omega)
    replace B2c0:u15.cell? ⟨u4.heap.size,0,none⟩=some (.slice ax0 nx0 cx0):=(by rw [(bcell hc).1 _ _ B2s];exact B2c0)
    replace B2c1:u15.cell? ⟨u4.heap.size,1,none⟩=some (.slice bax0 bnx0 bcx0):=(by rw [(bcell hc).1 _ _ B2s];exact B2c1)
    replace B2c2:u15.cell? ⟨u4.heap.size,2,none⟩=some (.slice cax0 cnx0 ccx0):=(by rw [(bcell hc).1 _ _ B2s];exact B2c2)
    replace B2s:u4.heap.size<u15.heap.size:=(by omega)
    replace B3c0:u15.cell? ⟨u5.heap.size,0,none⟩=some (.int .i64 rv.num):=(by rw [(bcell hc).1 _ _ B3s];exact B3c0)
    replace B3c1:u15.cell? ⟨u5.heap.size,1,none⟩=some (.int .i64 rv.den):=(by rw [(bcell hc).1 _ _ B3s];exact B3c1)
    replace B3s:u5.heap.size<u15.heap.size:=(by omega)
    replace DA0:Hid (LPA false (0) w.heap.size u15 a0 n0 c0 xs0 ba0 bn0 bc0 bs0 ca0 cn0 cc0 cs0):=hid (beLP DA0.out hc (by omega))
    replace DW:Hid (RatsA false (u1.heap.size) u3.heap.size u15 aW nW cW dxs):=hid (beRats DW.out hc (by omega))
    replace DM:Hid (RatsA true (u4.heap.size+1) u5.heap.size u15 aG nG cG (mkRats 1 (dxs).length)):=hid (beRats DM.out hc (by omega))
    replace HW:Hid (Below w.heap.size w u15):=hid (Below.calm HW.out hc)
    have Dh0:Hid (LPA true (u14.heap.size) u15.heap.size u15 ah0 nh0 ch0 xs0 bah0 bnh0 bch0 bs0 cah0 cnh0 cch0 cs0):=hid (wdLP ho (by first | with_reducible exact Nat.le_refl _ | omega | (simp;done) | (simp;omega) | exact Nat.le_refl _))
    clear ho hb hc
    go_wp2_with fail
    refine (implMin (beLP (B:=u15.heap.size) Dh0.out (by repeat (first | with_reducible assumption | with_reducible exact Below.refl _ _ | with_reducible refine below_drewN ?_ _ | with_reducible refine Below.al ?_ (by first | with_reducible exact Nat.le_refl _ | omega | (simp;done) | (simp;omega) | exact Nat.le_refl _) _ | with_reducible refine Below.setCell ?_ (by first | with_reducible exact Nat.le_refl _ | omega | (simp;done) | (simp;omega) | exact Nat.le_refl _) _ | assumption | exact Below.refl _ _ | refine below_drewN ?_ _ | refine Below.al ?_ (by first | with_reducible exact Nat.le_refl _ | omega | (simp;done) | (simp;omega) | exact Nat.le_refl _) _ | refine Below.setCell ?_ (by first | with_reducible exact Nat.le_refl _ | omega | (simp;done) | (simp;omega) | exact Nat.le_refl _) _)) (by first | with_reducible exact Nat.le_refl _ | omega | (simp;done) | (simp;omega) | exact Nat.le_refl _)) (by first | with_reducible exact Nat.le_refl _ | omega | (simp;done) | (simp;omega) | exact Nat.le_refl _) HS0.out).mono ?_
    rintro e u16 ⟨aE,nE,cE,rfl,ho,hb⟩
    rw [HDxs.out] at ho;rw [HRV.out,HRB.out]
    have hc:Below u15.heap.size u15 u16:=Below.trans (by repeat (first | with_reducible assumption | with_reducible exact Below.refl _ _ | with_reducible refine below_drewN ?_ _ | with_reducible refine Below.al ?_ (by first | with_reducible exact Nat.le_refl _ | omega | (simp;done) | (simp;omega) | exact Nat.le_refl _) _ | with_reducible refine Below.setCell ?_ (by first | with_reducible exact Nat.le_refl _ | omega | (simp;done) | (simp;omega) | exact Nat.le_refl _) _ | assumption | exact Below.refl _ _ | refine below_drewN ?_ _ | refine Below.al ?_ (by first | with_reducible exact Nat.le_refl _ | omega | (simp;done) | (simp;omega) | exact Nat.le_refl _) _ | refine Below.setCell ?_ (by first | with_reducible exact Nat.le_refl _ | omega | (simp;done) | (simp;omega) | exact Nat.le_refl _) _)) (hb.mono (by first | with_reducible exact Nat.le_refl _ | omega | (simp;done) | (simp;omega) | exact Nat.le_refl _))
    have z16:u15.heap.size≤u16.heap.size:=hc.size
    replace B0c0:u16.cell? ⟨w.heap.size,0,none⟩=some (.slice a0 n0 c0):=(by rw [(bcell hc).1 _ _ B0s];exact B0c0)
    replace B0c1:u16.cell? ⟨w.heap.size,1,none⟩=some (.slice ba0 bn0 bc0):=(by rw [(bcell hc).1 _ _ B0s];exact B0c1)
    replace B0c2:u16.cell? ⟨w.heap.size,2,none⟩=some (.slice ca0 cn0 cc0):=(by rw [(bcell hc).1 _ _ B0s];exact B0c2)
    replace B0s:w.heap.size<u16.heap.size:=(by omega)
    replace B1c0:u16.cell? ⟨u3.heap.size,0,none⟩=some (.int .i64 rv.num):=(by rw [(bcell hc).1 _ _ B1s];exact B1c0)
    replace B1c1:u16.cell? ⟨u3.heap.size,1,none⟩=some (.int .i64 rv.den):=(by rw [(bcell hc).1 _ _ B1s];exact B1c1)
    replace B1s:u3.heap.size<u16.heap.size:=(by omega)
    replace B2c0:u16.cell? ⟨u4.heap.size,0,none⟩=some (.slice ax0 nx0 cx0):=(by rw [(bcell hc).1 _ _ B2s];exact B2c0)
    replace B2c1:u16.cell? ⟨u4.heap.size,1,none⟩=some (.slice bax0 bnx0 bcx0):=(by rw [(bcell hc).1 _ _ B2s];exact B2c1)
    replace B2c2:u16.cell? ⟨u4.heap.size,2,none⟩=some (.slice cax0 cnx0 ccx0):=(by rw [(bcell hc).1 _ _ B2s];exact B2c2)
    replace B2s:u4.heap.size<u16.heap.size:=(by omega)
    replace B3c0:u16.cell? ⟨u5.heap.size,0,none⟩=some (.int .i64 rv.num):=(by rw [(bcell hc).1 _ _ B3s];exact B3c0)
    replace B3c1:u16.cell? ⟨u5.heap.size,1,none⟩=some (.int .i64 rv.den):=(by rw [(bcell hc).1 _ _ B3s];exact B3c1)
    replace B3s:u5.heap.size<u16.heap.size:=(by omega)
    replace DA0:Hid (LPA false (0) w.heap.size u16 a0 n0 c0 xs0 ba0 bn0 bc0 bs0 ca0 cn0 cc0 cs0):=hid (beLP DA0.out hc (by omega))
    replace DW:Hid (RatsA false (u1.heap.size) u3.heap.size u16 aW nW cW dxs):=hid (beRats DW.out hc (by omega))
    replace DM:Hid (RatsA true (u4.heap.size+1) u5.heap.size u16 aG nG cG (mkRats 1 (dxs).length)):=hid (beRats DM.out hc (by omega))
    replace Dh0:Hid (LPA true (u14.heap.size) u15.heap.size u16 ah0 nh0 ch0 xs0 bah0 bnh0 bch0 bs0 cah0 cnh0 cch0 cs0):=hid (beLP Dh0.out hc (by omega))
    replace HW:Hid (Below w.heap.size w u16):=hid (Below.calm HW.out hc)
    have DE:Hid (RatsA true (u15.heap.size) u16.heap.size u16 aE nE cE dxs):=hid (wdRats ho (by first | with_reducible exact Nat.le_refl _ | omega | (simp;done) | (simp;omega) | exact Nat.le_refl _))
    clear ho hb hc
    go_wp2_with fail
    refine (eqRats aE aW nE cE nW cW dxs _ ((beRats (B:=u16.heap.size) DE.out (by repeat (first | with_reducible assumption | with_reducible exact Below.refl _ _ | with_reducible refine below_drewN ?_ _ | with_reducible refine Below.al ?_ (by first | with_reducible exact Nat.le_refl _ | omega | (simp;done) | (simp;omega) | exact Nat.le_refl _) _ | with_reducible refine Below.setCell ?_ (by first | with_reducible exact Nat.le_refl _ | omega | (simp;done) | (simp;omega) | exact Nat.le_refl _) _ | assumption | exact Below.refl _ _ | refine below_drewN ?_ _ | refine Below.al ?_ (by first | with_reducible exact Nat.le_refl _ | omega | (simp;done) | (simp;omega) | exact Nat.le_refl _) _ | refine Below.setCell ?_ (by first | with_reducible exact Nat.le_refl _ | omega | (simp;done) | (simp;omega) | exact Nat.le_refl _) _)) (by first | with_reducible exact Nat.le_refl _ | omega | (simp;done) | (simp;omega) | exact Nat.le_refl _))) (by first | with_reducible exact Nat.le_refl _ | omega | (simp;done) | (simp;omega) | exact Nat.le_refl _) (beRats (B:=u16.heap.size) DW.out (by repeat (first | with_reducible assumption | with_reducible exact Below.refl _ _ | with_reducible refine below_drewN ?_ _ | with_reducible refine Below.al ?_ (by first | with_reducible exact Nat.le_refl _ | omega | (simp;done) | (simp;omega) | exact Nat.le_refl _) _ | with_reducible refine Below.setCell ?_ (by first | with_reducible exact Nat.le_refl _ | omega | (simp;done) | (simp;omega) | exact Nat.le_refl _) _ | assumption | exact Below.refl _ _ | refine below_drewN ?_ _ | refine Below.al ?_ (by first | with_reducible exact Nat.le_refl _ | omega | (simp;done) | (simp;omega) | exact Nat.le_refl _) _ | refine Below.setCell ?_ (by first | with_reducible exact Nat.le_refl _ | omega | (simp;done) | (simp;omega) | exact Nat.le_refl _) _)) (by first | with_reducible exact Nat.le_refl _ | omega | (simp;done) | (simp;omega) | exact Nat.le_refl _)) (by first | with_reducible exact Nat.le_refl _ | omega | (simp;done) | (simp;omega) | exact Nat.le_refl _)).mono ?_
    rintro e u17 ⟨rfl,hb⟩
    have hc:Below u16.heap.size u16 u17:=Below.trans (by repeat (first | with_reducible assumption | with_reducible exact Below.refl _ _ | with_reducible refine below_drewN ?_ _ | with_reducible refine Below.al ?_ (by first | with_reducible exact Nat.le_refl _ | omega | (simp;done) | (simp;omega) | exact Nat.le_refl _) _ | with_reducible refine Below.setCell ?_ (by first | with_reducible exact Nat.le_refl _ | omega | (simp;done) | (simp;omega) | exact Nat.le_refl _) _ | assumption | exact Below.refl _ _ | refine below_drewN ?_ _ | refine Below.al ?_ (by first | with_reducible exact Nat.le_refl _ | omega | (simp;done) | (simp;omega) | exact Nat.le_refl _) _ | refine Below.setCell ?_ (by first | with_reducible exact Nat.le_refl _ | omega | (simp;done) | (simp;omega) | exact Nat.le_refl _) _)) (hb.mono (by first | with_reducible exact Nat.le_refl _ | omega | (simp;done) | (simp;omega) | exact Nat.le_refl _))
    have z17:u16.heap.size≤u17.heap.size:=hc.size
    replace B0c0:u17.cell? ⟨w.heap.size,0,none⟩=some (.slice a0 n0 c0):=(by rw [(bcell hc).1 _ _ B0s];exact B0c0)
    replace B0c1:u17.cell? ⟨w.heap.size,1,none⟩=some (.slice ba0 bn0 bc0):=(by rw [(bcell hc).1 _ _ B0s];exact B0c1)
    replace B0c2:u17.cell? ⟨w.heap.size,2,none⟩=some (.slice ca0 cn0 cc0):=(by rw [(bcell hc).1 _ _ B0s];exact B0c2)
    replace B0s:w.heap.size<u17.heap.size:=(by omega)
    replace B1c0:u17.cell? ⟨u3.heap.size,0,none⟩=some (.int .i64 rv.num):=(by rw [(bcell hc).1 _ _ B1s];exact B1c0)
    replace B1c1:u17.cell? ⟨u3.heap.size,1,none⟩=some (.int .i64 rv.den):=(by rw [(bcell hc).1 _ _ B1s];exact B1c1)
    replace B1s:u3.heap.size<u17.heap.size:=(by omega)
    replace B2c0:u17.cell? ⟨u4.heap.size,0,none⟩=some (.slice ax0 nx0 cx0):=(by rw [(bcell hc).1 _ _ B2s];exact B2c0)
    replace B2c1:u17.cell? ⟨u4.heap.size,1,none⟩=some (.slice bax0 bnx0 bcx0):=(by rw [(bcell hc).1 _ _ B2s];exact B2c1)
    replace B2c2:u17.cell? ⟨u4.heap.size,2,none⟩=some (.slice cax0 cnx0 ccx0):=(by rw [(bcell hc).1 _ _ B2s];exact B2c2)
    replace B2s:u4.heap.size<u17.heap.size:=(by omega)
    replace B3c0:u17.cell? ⟨u5.heap.size,0,none⟩=some (.int .i64 rv.num):=(by rw [(bcell hc).1 _ _ B3s];exact B3c0)
    replace B3c1:u17.cell? ⟨u5.heap.size,1,none⟩=some (.int .i64 rv.den):=(by rw [(bcell hc).1 _ _ B3s];exact B3c1)
    replace B3s:u5.heap.size<u17.heap.size:=(by omega)
    have B4c0:u17.cell? ⟨u16.heap.size,0,none⟩=some (.int .i64 rv.num):=(by rw [(bcell hb).1 _ _ (by first | omega | (simp;done) | (simp;omega))];first | with_reducible assumption | (go_simp;done) | assumption | (simp [World.cell?];done))
    have B4c1:u17.cell? ⟨u16.heap.size,1,none⟩=some (.int .i64 rv.den):=(by rw [(bcell hb).1 _ _ (by first | omega | (simp;done) | (simp;omega))];first | with_reducible assumption | (go_simp;done) | assumption | (simp [World.cell?];done))
    have B4p:u16.heap.size<u17.heap.size:=World.block_lt_of_cell? _ _ B4c0
    have B4s:u16.heap.size<u17.heap.size:=B4p
    replace DA0:Hid (LPA false (0) w.heap.size u17 a0 n0 c0 xs0 ba0 bn0 bc0 bs0 ca0 cn0 cc0 cs0):=hid (beLP DA0.out hc (by omega))
    replace DW:Hid (RatsA false (u1.heap.size) u3.heap.size u17 aW nW cW dxs):=hid (beRats DW.out hc (by omega))
    replace DM:Hid (RatsA true (u4.heap.size+1) u5.heap.size u17 aG nG cG (mkRats 1 (dxs).length)):=hid (beRats DM.out hc (by omega))
    replace Dh0:Hid (LPA true (u14.heap.size) u15.heap.size u17 ah0 nh0 ch0 xs0 bah0 bnh0 bch0 bs0 cah0 cnh0 cch0 cs0):=hid (beLP Dh0.out hc (by omega))
    replace DE:Hid (RatsA true (u15.heap.size) u16.heap.size u17 aE nE cE dxs):=hid (beRats DE.out hc (by omega))
    replace HW:Hid (Below w.heap.size w u17):=hid (Below.calm HW.out hc)
    clear hb hc
    go_wp2_with fail
    refine (eqRat1 rv.num rv.den _).mono ?_
    rintro e u18 ⟨rfl,hb⟩
    have hc:Below u17.heap.size u17 u18:=Below.trans (by repeat (first | with_reducible assumption | with_reducible exact Below.refl _ _ | with_reducible refine below_drewN ?_ _ | with_reducible refine Below.al ?_ (by first | with_reducible exact Nat.le_refl _ | omega | (simp;done) | (simp;omega) | exact Nat.le_refl _) _ | with_reducible refine Below.setCell ?_ (by first | with_reducible exact Nat.le_refl _ | omega | (simp;done) | (simp;omega) | exact Nat.le_refl _) _ | assumption | exact Below.refl _ _ | refine below_drewN ?_ _ | refine Below.al ?_ (by first | with_reducible exact Nat.le_refl _ | omega | (simp;done) | (simp;omega) | exact Nat.le_refl _) _ | refine Below.setCell ?_ (by first | with_reducible exact Nat.le_refl _ | omega | (simp;done) | (simp;omega) | exact Nat.le_refl _) _)) (hb.mono (by first | with_reducible exact Nat.le_refl _ | omega | (simp;done) | (simp;omega) | exact Nat.le_refl _))
    have z18:u17.heap.size≤u18.heap.size:=hc.size
    replace B0c0:u18.cell? ⟨w.heap.size,0,none⟩=some (.slice a0 n0 c0):=(by rw [(bcell hc).1 _ _ B0s];exact B0c0)
    replace B0c1:u18.cell? ⟨w.heap.size,1,none⟩=some (.slice ba0 bn0 bc0):=(by rw [(bcell hc).1 _ _ B0s];exact B0c1)
    replace B0c2:u18.cell? ⟨w.heap.size,2,none⟩=some (.slice ca0 cn0 cc0):=(by rw [(bcell hc).1 _ _ B0s];exact B0c2)
    replace B0s:w.heap.size<u18.heap.size:=(by omega)
    replace B1c0:u18.cell? ⟨u3.heap.size,0,none⟩=some (.int .i64 rv.num):=(by rw [(bcell hc).1 _ _ B1s];exact B1c0)
    replace B1c1:u18.cell? ⟨u3.heap.size,1,none⟩=some (.int .i64 rv.den):=(by rw [(bcell hc).1 _ _ B1s];exact B1c1)
    replace B1s:u3.heap.size<u18.heap.size:=(by omega)
    replace B2c0:u18.cell? ⟨u4.heap.size,0,none⟩=some (.slice ax0 nx0 cx0):=(by rw [(bcell hc).1 _ _ B2s];exact B2c0)
    replace B2c1:u18.cell? ⟨u4.heap.size,1,none⟩=some (.slice bax0 bnx0 bcx0):=(by rw [(bcell hc).1 _ _ B2s];exact B2c1)
    replace B2c2:u18.cell? ⟨u4.heap.size,2,none⟩=some (.slice cax0 cnx0 ccx0):=(by rw [(bcell hc).1 _ _ B2s];exact B2c2)
    replace B2s:u4.heap.size<u18.heap.size:=(by omega)
    replace B3c0:u18.cell? ⟨u5.heap.size,0,none⟩=some (.int .i64 rv.num):=(by rw [(bcell hc).1 _ _ B3s];exact B3c0)
    replace B3c1:u18.cell? ⟨u5.heap.size,1,none⟩=some (.int .i64 rv.den):=(by rw [(bcell hc).1 _ _ B3s];exact B3c1)
    replace B3s:u5.heap.size<u18.heap.size:=(by omega)
    replace B4c0:u18.cell? ⟨u16.heap.size,0,none⟩=some (.int .i64 rv.num):=(by rw [(bcell hc).1 _ _ B4s];exact B4c0)
    replace B4c1:u18.cell? ⟨u16.heap.size,1,none⟩=some (.int .i64 rv.den):=(by rw [(bcell hc).1 _ _ B4s];exact B4c1)
    replace B4s:u16.heap.size<u18.heap.size:=(by omega)
    replace DA0:Hid (LPA false (0) w.heap.size u18 a0 n0 c0 xs0 ba0 bn0 bc0 bs0 ca0 cn0 cc0 cs0):=hid (beLP DA0.out hc (by omega))
    replace DW:Hid (RatsA false (u1.heap.size) u3.heap.size u18 aW nW cW dxs):=hid (beRats DW.out hc (by omega))
    replace DM:Hid (RatsA true (u4.heap.size+1) u5.heap.size u18 aG nG cG (mkRats 1 (dxs).length)):=hid (beRats DM.out hc (by omega))
    replace Dh0:Hid (LPA true (u14.heap.size) u15.heap.size u18 ah0 nh0 ch0 xs0 bah0 bnh0 bch0 bs0 cah0 cnh0 cch0 cs0):=hid (beLP Dh0.out hc (by omega))
    replace DE:Hid (RatsA true (u15.heap.size) u16.heap.size u18 aE nE cE dxs):=hid (beRats DE.out hc (by omega))
    replace HW:Hid (Below w.heap.size w u18):=hid (Below.calm HW.out hc)
    clear hb hc
    go_wp2_with fail
    refine (heldK_Rats aG nG cG dxs 1 _ (beRats (B:=u18.heap.size) DM.out (by repeat (first | with_reducible assumption | with_reducible exact Below.refl _ _ | with_reducible refine below_drewN ?_ _ | with_reducible refine Below.al ?_ (by first | with_reducible exact Nat.le_refl _ | omega | (simp;done) | (simp;omega) | exact Nat.le_refl _) _ | with_reducible refine Below.setCell ?_ (by first | with_reducible exact Nat.le_refl _ | omega | (simp;done) | (simp;omega) | exact Nat.le_refl _) _ | assumption | exact Below.refl _ _ | refine below_drewN ?_ _ | refine Below.al ?_ (by first | with_reducible exact Nat.le_refl _ | omega | (simp;done) | (simp;omega) | exact Nat.le_refl _) _ | refine Below.setCell ?_ (by first | with_reducible exact Nat.le_refl _ | omega | (simp;done) | (simp;omega) | exact Nat.le_refl _) _)) (by first | with_reducible exact Nat.le_refl _ | omega | (simp;done) | (simp;omega) | exact Nat.le_refl _)) (by first | with_reducible exact Nat.le_refl _ | omega | (simp;done) | (simp;omega) | exact Nat.le_refl _) (by omega) (by omega) HSG.out).mono ?_
    rintro e u19 ⟨rfl,hb⟩
    rw [← HLG.out,← HKM.out]
    have hc:Below u18.heap.size u18 u19:=Below.trans (by repeat (first | with_reducible assumption | with_reducible exact Below.refl _ _ | with_reducible refine below_drewN ?_ _ | with_reducible refine Below.al ?_ (by first | with_reducible exact Nat.le_refl _ | omega | (simp;done) | (simp;omega) | exact Nat.le_refl _) _ | with_reducible refine Below.setCell ?_ (by first | with_reducible exact Nat.le_refl _ | omega | (simp;done) | (simp;omega) | exact Nat.le_refl _) _ | assumption | exact Below.refl _ _ | refine below_drewN ?_ _ | refine Below.al ?_ (by first | with_reducible exact Nat.le_refl _ | omega | (simp;done) | (simp;omega) | exact Nat.le_refl _) _ | refine Below.setCell ?_ (by first | with_reducible exact Nat.le_refl _ | omega | (simp;done) | (simp;omega) | exact Nat.le_refl _) _)) (hb.mono (by first | with_reducible exact Nat.le_refl _ | omega | (simp;done) | (simp;omega) | exact Nat.le_refl _))
    have z19:u18.heap.size≤u19.heap.size:=hc.size
    replace B0c0:u19.cell? ⟨w.heap.size,0,none⟩=some (.slice a0 n0 c0):=(by rw [(bcell hc).1 _ _ B0s];exact B0c0)
    replace B0c1:u19.cell? ⟨w.heap.size,1,none⟩=some (.slice ba0 bn0 bc0):=(by rw [(bcell hc).1 _ _ B0s];exact B0c1)
    replace B0c2:u19.cell? ⟨w.heap.size,2,none⟩=some (.slice ca0 cn0 cc0):=(by rw [(bcell hc).1 _ _ B0s];exact B0c2)
    replace B0s:w.heap.size<u19.heap.size:=(by omega)
    replace B1c0:u19.cell? ⟨u3.heap.size,0,none⟩=some (.int .i64 rv.num):=(by rw [(bcell hc).1 _ _ B1s];exact B1c0)
    replace B1c1:u19.cell? ⟨u3.heap.size,1,none⟩=some (.int .i64 rv.den):=(by rw [(bcell hc).1 _ _ B1s];exact B1c1)
    replace B1s:u3.heap.size<u19.heap.size:=(by omega)
    replace B2c0:u19.cell? ⟨u4.heap.size,0,none⟩=some (.slice ax0 nx0 cx0):=(by rw [(bcell hc).1 _ _ B2s];exact B2c0)
    replace B2c1:u19.cell? ⟨u4.heap.size,1,none⟩=some (.slice bax0 bnx0 bcx0):=(by rw [(bcell hc).1 _ _ B2s];exact B2c1)
    replace B2c2:u19.cell? ⟨u4.heap.size,2,none⟩=some (.slice cax0 cnx0 ccx0):=(by rw [(bcell hc).1 _ _ B2s];exact B2c2)
    replace B2s:u4.heap.size<u19.heap.size:=(by omega)
    replace B3c0:u19.cell? ⟨u5.heap.size,0,none⟩=some (.int .i64 rv.num):=(by rw [(bcell hc).1 _ _ B3s];exact B3c0)
    replace B3c1:u19.cell? ⟨u5.heap.size,1,none⟩=some (.int .i64 rv.den):=(by rw [(bcell hc).1 _ _ B3s];exact B3c1)
    replace B3s:u5.heap.size<u19.heap.size:=(by omega)
    replace B4c0:u19.cell? ⟨u16.heap.size,0,none⟩=some (.int .i64 rv.num):=(by rw [(bcell hc).1 _ _ B4s];exact B4c0)
    replace B4c1:u19.cell? ⟨u16.heap.size,1,none⟩=some (.int .i64 rv.den):=(by rw [(bcell hc).1 _ _ B4s];exact B4c1)
    replace B4s:u16.heap.size<u19.heap.size:=(by omega)
    replace DA0:Hid (LPA false (0) w.heap.size u19 a0 n0 c0 xs0 ba0 bn0 bc0 bs0 ca0 cn0 cc0 cs0):=hid (beLP DA0.out hc (by omega))
    replace DW:Hid (RatsA false (u1.heap.size) u3.heap.size u19 aW nW cW dxs):=hid (beRats DW.out hc (by omega))
    replace DM:Hid (RatsA true (u4.heap.size+1) u5.heap.size u19 aG nG cG (mkRats 1 (dxs).length)):=hid (beRats DM.out hc (by omega))
    replace Dh0:Hid (LPA true (u14.heap.size) u15.heap.size u19 ah0 nh0 ch0 xs0 bah0 bnh0 bch0 bs0 cah0 cnh0 cch0 cs0):=hid (beLP Dh0.out hc (by omega))
    replace DE:Hid (RatsA true (u15.heap.size) u16.heap.size u19 aE nE cE dxs):=hid (beRats DE.out hc (by omega))
    replace HW:Hid (Below w.heap.size w u19):=hid (Below.calm HW.out hc)
    clear hb hc
    go_wp2_with fail
    go_ret
    exact ⟨rfl,HW.out⟩
  · rw [szI_no hsz0]
    have HQ0:=hid hsz0;clear hsz0
    go_wp2_with fail
    go_ret
    exact ⟨rfl,HW.out⟩
end Go.Proofs.Ytpbclpopoodklaa
