/- Lemmas for the proof of FnExactAtomSizes, part 17 of 19: no condition of their own. -/
import Derived.Test.YtlpdbkhekbdceaaJ3
import Derived.Test.YtlpdbkhekbdceaaJ16
namespace Go.Proofs.Ytlpdbkhekbdceaa
set_option linter.unusedSimpArgs false
set_option linter.unusedVariables false
open Go.RowKit
set_option maxHeartbeats 4000000 in
theorem law_FnExactAtomSizes (a0:Option Addr) (n0:Nat) (c0:Nat) (xs0:List TableD) (nv1:Int) (a1:Option Addr) (n1:Nat) (c1:Nat) (xs1:List AtomD) (ua1:Option Addr) (un1:Nat) (uc1:Nat) (us1:List Int) (w:World) (hD0:TablesA false (0) w.heap.size w a0 n0 c0 xs0) (hD1:QueryA false (0) w.heap.size w nv1 a1 n1 c1 xs1 ua1 un1 uc1 us1) :
 Calls Try.prog 3 #[dbV a0 n0 c0,queryV nv1 a1 n1 c1 ua1 un1 uc1] w (Leaves w (.bool true)):=by
 have DA0:=hid hD0;clear hD0
 have DA1:=hid hD1;clear hD1
 go_enter Try.func3,Try.ntmps3
 go_wp2_with fail
 refine (szK_Db a0 n0 c0 xs0 1048576 _ (beTables (B:=w.heap.size) DA0.out belA leA) leA (by omega) (by omega)).mono ?_
 rintro e u1 ⟨rfl,hb⟩
 have hc:Below w.heap.size w u1:=Below.trans belA (hb.mono leA)
 have z1:w.heap.size≤u1.heap.size:=hc.size
 have B0c0:u1.cell? ⟨w.heap.size,0,none⟩=some (.slice a0 n0 c0):=(by rw [(bcell hb).1 _ _ (by first | omega | (simp;done) | (simp;omega))];first | with_reducible assumption | (go_simp;done) | assumption | (simp [World.cell?];done))
 have B0p:w.heap.size<u1.heap.size:=World.block_lt_of_cell? _ _ B0c0
 have B0s:w.heap.size<u1.heap.size:=B0p
 have B1c0:u1.cell? ⟨w.heap.size+1,0,none⟩=some (.int .i64 nv1):=(by rw [(bcell hb).1 _ _ (by first | omega | (simp;done) | (simp;omega))];first | with_reducible assumption | (go_simp;done) | assumption | (simp [World.cell?];done))
 have B1c1:u1.cell? ⟨w.heap.size+1,1,none⟩=some (.slice a1 n1 c1):=(by rw [(bcell hb).1 _ _ (by first | omega | (simp;done) | (simp;omega))];first | with_reducible assumption | (go_simp;done) | assumption | (simp [World.cell?];done))
 have B1c2:u1.cell? ⟨w.heap.size+1,2,none⟩=some (.slice ua1 un1 uc1):=(by rw [(bcell hb).1 _ _ (by first | omega | (simp;done) | (simp;omega))];first | with_reducible assumption | (go_simp;done) | assumption | (simp [World.cell?];done))
 have B1p:w.heap.size+1<u1.heap.size:=World.block_lt_of_cell? _ _ B1c0
 have B1s:w.heap.size+1<u1.heap.size:=B1p
 replace DA0:Hid (TablesA false (0) w.heap.size u1 a0 n0 c0 xs0):=hid (beTables DA0.out hc (by omega))
 replace DA1:Hid (QueryA false (0) w.heap.size u1 nv1 a1 n1 c1 xs1 ua1 un1 uc1 us1):=hid (beQuery DA1.out hc (by omega))
 have HW:=hid hc
 clear hb hc
 by_cases hsz0:(tabsSz xs0:Int)≤1048576
 ·rw [szI_yes hsz0]
  obtain ⟨left0,hleft0⟩:∃ l,l=1048576 - (tabsSz xs0:Int):=⟨_,rfl⟩
  rw [← hleft0]
  have hlo0:0≤left0:=by omega
  have hhi0:left0≤1048576:=by omega
  have HS0:Hid (tabsSz xs0≤1048576):=hid (by omega)
  have HQ0:=hid (And.intro hsz0 hleft0);clear hsz0 hleft0
  go_wp2_with fail
  refine (szK_Query nv1 a1 n1 c1 xs1 ua1 un1 uc1 us1 left0 _ (beQuery (B:=u1.heap.size) DA1.out belA leA) leA (by omega) (by omega)).mono ?_
  rintro e u2 ⟨rfl,hb⟩
  have hc:Below u1.heap.size u1 u2:=Below.trans belA (hb.mono leA)
  have z2:u1.heap.size≤u2.heap.size:=hc.size
  replace B0c0:u2.cell? ⟨w.heap.size,0,none⟩=some (.slice a0 n0 c0):=(by rw [(bcell hc).1 _ _ B0s];exact B0c0)
  replace B0s:w.heap.size<u2.heap.size:=(by omega)
  replace B1c0:u2.cell? ⟨w.heap.size+1,0,none⟩=some (.int .i64 nv1):=(by rw [(bcell hc).1 _ _ B1s];exact B1c0)
  replace B1c1:u2.cell? ⟨w.heap.size+1,1,none⟩=some (.slice a1 n1 c1):=(by rw [(bcell hc).1 _ _ B1s];exact B1c1)
  replace B1c2:u2.cell? ⟨w.heap.size+1,2,none⟩=some (.slice ua1 un1 uc1):=(by rw [(bcell hc).1 _ _ B1s];exact B1c2)
  replace B1s:w.heap.size+1<u2.heap.size:=(by omega)
  replace DA0:Hid (TablesA false (0) w.heap.size u2 a0 n0 c0 xs0):=hid (beTables DA0.out hc (by omega))
  replace DA1:Hid (QueryA false (0) w.heap.size u2 nv1 a1 n1 c1 xs1 ua1 un1 uc1 us1):=hid (beQuery DA1.out hc (by omega))
  replace HW:Hid (Below w.heap.size w u2):=hid (Below.calm HW.out hc)
  clear hb hc
  by_cases hsz1:(szQuery xs1 us1:Int)≤left0
  ·rw [szI_yes hsz1]
   obtain ⟨left1,hleft1⟩:∃ l,l=left0 - (szQuery xs1 us1:Int):=⟨_,rfl⟩
   rw [← hleft1]
   have hlo1:0≤left1:=by omega
   have hhi1:left1≤1048576:=by omega
   have HS1:Hid (szQuery xs1 us1≤1048576):=hid (by omega)
   have HQ1:=hid (And.intro hsz1 hleft1);clear hsz1 hleft1
   obtain ⟨dxs,hdxs⟩:∃ x:List Int,asF nv1 xs1 us1 xs0=x:=⟨_,rfl⟩
   have HDxs:=hid hdxs;clear hdxs
   obtain ⟨rb,hrb⟩:∃ x:Bool,qfOK nv1 xs1 us1 xs0=x:=⟨_,rfl⟩
   have hneb:((rb:Bool) != rb)=false:=by simp
   have HRB:=hid hrb;clear hrb
   go_wp2_with fail
   go_region_held3 (fun w'=>w'.cell? ⟨w.heap.size,0,none⟩=some (.slice a0 n0 c0)∧w'.cell? ⟨w.heap.size+1,0,none⟩=some (.int .i64 nv1)∧w'.cell? ⟨w.heap.size+1,1,none⟩=some (.slice a1 n1 c1)∧w'.cell? ⟨w.heap.size+1,2,none⟩=some (.slice ua1 un1 uc1)) (refine ⟨?_,?_,?_,?_⟩ <;> assumption)
    (first | (go_at_call 7;(with_reducible refine (toK_Db a0 n0 c0 xs0 _ (beTables (B:=u2.heap.size) DA0.out (by repeat (first | with_reducible assumption | with_reducible exact Below.refl _ _ | with_reducible refine below_drewN ?_ _ | with_reducible refine below_drew1 ?_ | with_reducible refine Below.al ?_ (by first | with_reducible exact Nat.le_refl _ | omega | (simp;done) | (simp;omega) | exact Nat.le_refl _) _ | with_reducible refine Below.setCell ?_ (by first | with_reducible exact Nat.le_refl _ | omega | (simp;done) | (simp;omega) | exact Nat.le_refl _) _ | assumption | exact Below.refl _ _ | refine below_drewN ?_ _ | refine below_drew1 ?_ | refine Below.al ?_ (by first | with_reducible exact Nat.le_refl _ | omega | (simp;done) | (simp;omega) | exact Nat.le_refl _) _ | refine Below.setCell ?_ (by first | with_reducible exact Nat.le_refl _ | omega | (simp;done) | (simp;omega) | exact Nat.le_refl _) _)) leA) leA HS0.out).mono ?_);rintro e u3 ⟨ap0,np0,cp0,rfl,ho,hb⟩;have hc:Below u2.heap.size u2 u3:=Below.trans (by repeat (first | with_reducible assumption | with_reducible exact Below.refl _ _ | with_reducible refine below_drewN ?_ _ | with_reducible refine below_drew1 ?_ | with_reducible refine Below.al ?_ (by first | with_reducible exact Nat.le_refl _ | omega | (simp;done) | (simp;omega) | exact Nat.le_refl _) _ | with_reducible refine Below.setCell ?_ (by first | with_reducible exact Nat.le_refl _ | omega | (simp;done) | (simp;omega) | exact Nat.le_refl _) _ | assumption | exact Below.refl _ _ | refine below_drewN ?_ _ | refine below_drew1 ?_ | refine Below.al ?_ (by first | with_reducible exact Nat.le_refl _ | omega | (simp;done) | (simp;omega) | exact Nat.le_refl _) _ | refine Below.setCell ?_ (by first | with_reducible exact Nat.le_refl _ | omega | (simp;done) | (simp;omega) | exact Nat.le_refl _) _)) (hb.mono leA);have z3:u2.heap.size≤u3.heap.size:=hc.size;replace B0c0:u3.cell? ⟨w.heap.size,0,none⟩=some (.slice a0 n0 c0):=(by rw [(bcell hc).1 _ _ B0s];exact B0c0);replace B0s:w.heap.size<u3.heap.size:=(by omega);replace B1c0:u3.cell? ⟨w.heap.size+1,0,none⟩=some (.int .i64 nv1):=(by rw [(bcell hc).1 _ _ B1s];exact B1c0);replace B1c1:u3.cell? ⟨w.heap.size+1,1,none⟩=some (.slice a1 n1 c1):=(by rw [(bcell hc).1 _ _ B1s];exact B1c1);replace B1c2:u3.cell? ⟨w.heap.size+1,2,none⟩=some (.slice ua1 un1 uc1):=(by rw [(bcell hc).1 _ _ B1s];exact B1c2);replace B1s:w.heap.size+1<u3.heap.size:=(by omega);replace DA0:Hid (TablesA false (0) w.heap.size u3 a0 n0 c0 xs0):=hid (beTables DA0.out hc (by omega));replace DA1:Hid (QueryA false (0) w.heap.size u3 nv1 a1 n1 c1 xs1 ua1 un1 uc1 us1):=hid (beQuery DA1.out hc (by omega));replace HW:Hid (Below w.heap.size w u3):=hid (Below.calm HW.out hc);have Dp0:Hid (TablesA true (u2.heap.size) u3.heap.size u3 ap0 np0 cp0 xs0):=hid (wdTables ho leA);clear ho hb hc) | (go_at_call 8;(with_reducible refine (toK_Query nv1 a1 n1 c1 xs1 ua1 un1 uc1 us1 _ (beQuery (B:=u3.heap.size) DA1.out (by repeat (first | with_reducible assumption | with_reducible exact Below.refl _ _ | with_reducible refine below_drewN ?_ _ | with_reducible refine below_drew1 ?_ | with_reducible refine Below.al ?_ (by first | with_reducible exact Nat.le_refl _ | omega | (simp;done) | (simp;omega) | exact Nat.le_refl _) _ | with_reducible refine Below.setCell ?_ (by first | with_reducible exact Nat.le_refl _ | omega | (simp;done) | (simp;omega) | exact Nat.le_refl _) _ | assumption | exact Below.refl _ _ | refine below_drewN ?_ _ | refine below_drew1 ?_ | refine Below.al ?_ (by first | with_reducible exact Nat.le_refl _ | omega | (simp;done) | (simp;omega) | exact Nat.le_refl _) _ | refine Below.setCell ?_ (by first | with_reducible exact Nat.le_refl _ | omega | (simp;done) | (simp;omega) | exact Nat.le_refl _) _)) leA) leA HS1.out).mono ?_);rintro e u4 ⟨ap1,np1,cp1,uap1,unp1,ucp1,rfl,ho,hb⟩;have hc:Below u3.heap.size u3 u4:=Below.trans (by repeat (first | with_reducible assumption | with_reducible exact Below.refl _ _ | with_reducible refine below_drewN ?_ _ | with_reducible refine below_drew1 ?_ | with_reducible refine Below.al ?_ (by first | with_reducible exact Nat.le_refl _ | omega | (simp;done) | (simp;omega) | exact Nat.le_refl _) _ | with_reducible refine Below.setCell ?_ (by first | with_reducible exact Nat.le_refl _ | omega | (simp;done) | (simp;omega) | exact Nat.le_refl _) _ | assumption | exact Below.refl _ _ | refine below_drewN ?_ _ | refine below_drew1 ?_ | refine Below.al ?_ (by first | with_reducible exact Nat.le_refl _ | omega | (simp;done) | (simp;omega) | exact Nat.le_refl _) _ | refine Below.setCell ?_ (by first | with_reducible exact Nat.le_refl _ | omega | (simp;done) | (simp;omega) | exact Nat.le_refl _) _)) (hb.mono leA);have z4:u3.heap.size≤u4.heap.size:=hc.size;replace B0c0:u4.cell? ⟨w.heap.size,0,none⟩=some (.slice a0 n0 c0):=(by rw [(bcell hc).1 _ _ B0s];exact B0c0);replace B0s:w.heap.size<u4.heap.size:=(by omega);replace B1c0:u4.cell? ⟨w.heap.size+1,0,none⟩=some (.int .i64 nv1):=(by rw [(bcell hc).1 _ _ B1s];exact B1c0);replace B1c1:u4.cell? ⟨w.heap.size+1,1,none⟩=some (.slice a1 n1 c1):=(by rw [(bcell hc).1 _ _ B1s];exact B1c1);replace B1c2:u4.cell? ⟨w.heap.size+1,2,none⟩=some (.slice ua1 un1 uc1):=(by rw [(bcell hc).1 _ _ B1s];exact B1c2);replace B1s:w.heap.size+1<u4.heap.size:=(by omega);replace DA0:Hid (TablesA false (0) w.heap.size u4 a0 n0 c0 xs0):=hid (beTables DA0.out hc (by omega));replace DA1:Hid (QueryA false (0) w.heap.size u4 nv1 a1 n1 c1 xs1 ua1 un1 uc1 us1):=hid (beQuery DA1.out hc (by omega));replace Dp0:Hid (TablesA true (u2.heap.size) u3.heap.size u4 ap0 np0 cp0 xs0):=hid (beTables Dp0.out hc (by omega));replace HW:Hid (Below w.heap.size w u4):=hid (Below.calm HW.out hc);have Dp1:Hid (QueryA true (u3.heap.size) u4.heap.size u4 nv1 ap1 np1 cp1 xs1 uap1 unp1 ucp1 us1):=hid (wdQuery ho leA);clear ho hb hc) | (go_at_call 6;(with_reducible refine (sizes_own (specSizesA nv1 xs1 us1 xs0 (nm_ofQ DA1.out) (nmT_of DA0.out) (db_len HS0.out) (szQ_len HS1.out)) (beTables (B:=u4.heap.size) Dp0.out (by repeat (first | with_reducible assumption | with_reducible exact Below.refl _ _ | with_reducible refine below_drewN ?_ _ | with_reducible refine below_drew1 ?_ | with_reducible refine Below.al ?_ (by first | with_reducible exact Nat.le_refl _ | omega | (simp;done) | (simp;omega) | exact Nat.le_refl _) _ | with_reducible refine Below.setCell ?_ (by first | with_reducible exact Nat.le_refl _ | omega | (simp;done) | (simp;omega) | exact Nat.le_refl _) _ | assumption | exact Below.refl _ _ | refine below_drewN ?_ _ | refine below_drew1 ?_ | refine Below.al ?_ (by first | with_reducible exact Nat.le_refl _ | omega | (simp;done) | (simp;omega) | exact Nat.le_refl _) _ | refine Below.setCell ?_ (by first | with_reducible exact Nat.le_refl _ | omega | (simp;done) | (simp;omega) | exact Nat.le_refl _) _)) leA) leA (beQuery (B:=u4.heap.size) Dp1.out (by repeat (first | with_reducible assumption | with_reducible exact Below.refl _ _ | with_reducible refine below_drewN ?_ _ | with_reducible refine below_drew1 ?_ | with_reducible refine Below.al ?_ (by first | with_reducible exact Nat.le_refl _ | omega | (simp;done) | (simp;omega) | exact Nat.le_refl _) _ | with_reducible refine Below.setCell ?_ (by first | with_reducible exact Nat.le_refl _ | omega | (simp;done) | (simp;omega) | exact Nat.le_refl _) _ | assumption | exact Below.refl _ _ | refine below_drewN ?_ _ | refine below_drew1 ?_ | refine Below.al ?_ (by first | with_reducible exact Nat.le_refl _ | omega | (simp;done) | (simp;omega) | exact Nat.le_refl _) _ | refine Below.setCell ?_ (by first | with_reducible exact Nat.le_refl _ | omega | (simp;done) | (simp;omega) | exact Nat.le_refl _) _)) leA) leA).mono ?_);rintro e u5 ⟨aW,nW,cW,rfl,ho,hb⟩;rw [HDxs.out] at ho;rw [HRB.out];have hc:Below u4.heap.size u4 u5:=Below.trans (by repeat (first | with_reducible assumption | with_reducible exact Below.refl _ _ | with_reducible refine below_drewN ?_ _ | with_reducible refine below_drew1 ?_ | with_reducible refine Below.al ?_ (by first | with_reducible exact Nat.le_refl _ | omega | (simp;done) | (simp;omega) | exact Nat.le_refl _) _ | with_reducible refine Below.setCell ?_ (by first | with_reducible exact Nat.le_refl _ | omega | (simp;done) | (simp;omega) | exact Nat.le_refl _) _ | assumption | exact Below.refl _ _ | refine below_drewN ?_ _ | refine below_drew1 ?_ | refine Below.al ?_ (by first | with_reducible exact Nat.le_refl _ | omega | (simp;done) | (simp;omega) | exact Nat.le_refl _) _ | refine Below.setCell ?_ (by first | with_reducible exact Nat.le_refl _ | omega | (simp;done) | (simp;omega) | exact Nat.le_refl _) _)) (hb.mono leA);have z5:u4.heap.size≤u5.heap.size:=hc.size;replace B0c0:u5.cell? ⟨w.heap.size,0,none⟩=some (.slice a0 n0 c0):=(by rw [(bcell hc).1 _ _ B0s];exact B0c0);replace B0s:w.heap.size<u5.heap.size:=(by omega);replace B1c0:u5.cell? ⟨w.heap.size+1,0,none⟩=some (.int .i64 nv1):=(by rw [(bcell hc).1 _ _ B1s];exact B1c0);replace B1c1:u5.cell? ⟨w.heap.size+1,1,none⟩=some (.slice a1 n1 c1):=(by rw [(bcell hc).1 _ _ B1s];exact B1c1);replace B1c2:u5.cell? ⟨w.heap.size+1,2,none⟩=some (.slice ua1 un1 uc1):=(by rw [(bcell hc).1 _ _ B1s];exact B1c2);replace B1s:w.heap.size+1<u5.heap.size:=(by omega);replace DA0:Hid (TablesA false (0) w.heap.size u5 a0 n0 c0 xs0):=hid (beTables DA0.out hc (by omega));replace DA1:Hid (QueryA false (0) w.heap.size u5 nv1 a1 n1 c1 xs1 ua1 un1 uc1 us1):=hid (beQuery DA1.out hc (by omega));replace Dp0:Hid (TablesA true (u2.heap.size) u3.heap.size u5 ap0 np0 cp0 xs0):=hid (beTables Dp0.out hc (by omega));replace Dp1:Hid (QueryA true (u3.heap.size) u4.heap.size u5 nv1 ap1 np1 cp1 xs1 uap1 unp1 ucp1 us1):=hid (beQuery Dp1.out hc (by omega));replace HW:Hid (Below w.heap.size w u5):=hid (Below.calm HW.out hc);have DW:Hid (IntsA true (u4.heap.size) u5.heap.size u5 aW nW cW dxs):=hid (wdInts ho leA);clear ho hb hc))
   go_wp2_with fail
   refine (toK_Db a0 n0 c0 xs0 _ (beTables (B:=u5.heap.size) DA0.out belA leA) leA HS0.out).mono ?_
   rintro e u6 ⟨ax0,nx0,cx0,rfl,ho,hb⟩
   have hc:Below u5.heap.size u5 u6:=Below.trans belA (hb.mono leA)
   have z6:u5.heap.size≤u6.heap.size:=hc.size
   replace B0c0:u6.cell? ⟨w.heap.size,0,none⟩=some (.slice a0 n0 c0):=(by rw [(bcell hc).1 _ _ B0s];exact B0c0)
   replace B0s:w.heap.size<u6.heap.size:=(by omega)
   replace B1c0:u6.cell? ⟨w.heap.size+1,0,none⟩=some (.int .i64 nv1):=(by rw [(bcell hc).1 _ _ B1s];exact B1c0)
   replace B1c1:u6.cell? ⟨w.heap.size+1,1,none⟩=some (.slice a1 n1 c1):=(by rw [(bcell hc).1 _ _ B1s];exact B1c1)
   replace B1c2:u6.cell? ⟨w.heap.size+1,2,none⟩=some (.slice ua1 un1 uc1):=(by rw [(bcell hc).1 _ _ B1s];exact B1c2)
   replace B1s:w.heap.size+1<u6.heap.size:=(by omega)
   replace DA0:Hid (TablesA false (0) w.heap.size u6 a0 n0 c0 xs0):=hid (beTables DA0.out hc (by omega))
   replace DA1:Hid (QueryA false (0) w.heap.size u6 nv1 a1 n1 c1 xs1 ua1 un1 uc1 us1):=hid (beQuery DA1.out hc (by omega))
   replace DW:Hid (IntsA true (u4.heap.size) u5.heap.size u6 aW nW cW dxs):=hid (beInts DW.out hc (by omega))
   replace HW:Hid (Below w.heap.size w u6):=hid (Below.calm HW.out hc)
   have Dx0:Hid (TablesA true (u5.heap.size) u6.heap.size u6 ax0 nx0 cx0 xs0):=hid (wdTables ho leA)
   clear ho hb hc
   go_wp2_with fail
   refine (toK_Query nv1 a1 n1 c1 xs1 ua1 un1 uc1 us1 _ (beQuery (B:=u6.heap.size) DA1.out belA leA) leA HS1.out).mono ?_
   rintro e u7 ⟨ax1,nx1,cx1,uax1,unx1,ucx1,rfl,ho,hb⟩
   have hc:Below u6.heap.size u6 u7:=Below.trans belA (hb.mono leA)
   have z7:u6.heap.size≤u7.heap.size:=hc.size
   replace B0c0:u7.cell? ⟨w.heap.size,0,none⟩=some (.slice a0 n0 c0):=(by rw [(bcell hc).1 _ _ B0s];exact B0c0)
   replace B0s:w.heap.size<u7.heap.size:=(by omega)
   replace B1c0:u7.cell? ⟨w.heap.size+1,0,none⟩=some (.int .i64 nv1):=(by rw [(bcell hc).1 _ _ B1s];exact B1c0)
   replace B1c1:u7.cell? ⟨w.heap.size+1,1,none⟩=some (.slice a1 n1 c1):=(by rw [(bcell hc).1 _ _ B1s];exact B1c1)
   replace B1c2:u7.cell? ⟨w.heap.size+1,2,none⟩=some (.slice ua1 un1 uc1):=(by rw [(bcell hc).1 _ _ B1s];exact B1c2)
   replace B1s:w.heap.size+1<u7.heap.size:=(by omega)
   have B2c0:u7.cell? ⟨u6.heap.size,0,none⟩=some (.slice ax0 nx0 cx0):=(by rw [(bcell hb).1 _ _ (by first | omega | (simp;done) | (simp;omega))];first | with_reducible assumption | (go_simp;done) | assumption | (simp [World.cell?];done))
   have B2p:u6.heap.size<u7.heap.size:=World.block_lt_of_cell? _ _ B2c0
   have B2s:u6.heap.size<u7.heap.size:=B2p
   replace DA0:Hid (TablesA false (0) w.heap.size u7 a0 n0 c0 xs0):=hid (beTables DA0.out hc (by omega))
   replace DA1:Hid (QueryA false (0) w.heap.size u7 nv1 a1 n1 c1 xs1 ua1 un1 uc1 us1):=hid (beQuery DA1.out hc (by omega))
   replace DW:Hid (IntsA true (u4.heap.size) u5.heap.size u7 aW nW cW dxs):=hid (beInts DW.out hc (by omega))
   replace Dx0:Hid (TablesA true (u5.heap.size) u6.heap.size u7 ax0 nx0 cx0 xs0):=hid (beTables Dx0.out hc (by omega))
   replace HW:Hid (Below w.heap.size w u7):=hid (Below.calm HW.out hc)
   have Dx1:Hid (QueryA true (u6.heap.size+1) u7.heap.size u7 nv1 ax1 nx1 cx1 xs1 uax1 unx1 ucx1 us1):=hid (wdQuery ho leA)
   clear ho hb hc
   go_wp2_with fail
   refine (sizes_own (implSizesA nv1 xs1 us1 xs0 (nm_ofQ DA1.out) (nmT_of DA0.out) (db_len HS0.out) (szQ_len HS1.out)) (beTables (B:=u7.heap.size) Dx0.out belA leA) leA (beQuery (B:=u7.heap.size) Dx1.out belA leA) leA).mono ?_
   rintro e u8 ⟨aG,nG,cG,rfl,ho,hb⟩
   rw [HDxs.out] at ho;rw [HRB.out]
   have hc:Below u7.heap.size u7 u8:=Below.trans belA (hb.mono leA)
   have z8:u7.heap.size≤u8.heap.size:=hc.size
   replace B0c0:u8.cell? ⟨w.heap.size,0,none⟩=some (.slice a0 n0 c0):=(by rw [(bcell hc).1 _ _ B0s];exact B0c0)
   replace B0s:w.heap.size<u8.heap.size:=(by omega)
   replace B1c0:u8.cell? ⟨w.heap.size+1,0,none⟩=some (.int .i64 nv1):=(by rw [(bcell hc).1 _ _ B1s];exact B1c0)
   replace B1c1:u8.cell? ⟨w.heap.size+1,1,none⟩=some (.slice a1 n1 c1):=(by rw [(bcell hc).1 _ _ B1s];exact B1c1)
   replace B1c2:u8.cell? ⟨w.heap.size+1,2,none⟩=some (.slice ua1 un1 uc1):=(by rw [(bcell hc).1 _ _ B1s];exact B1c2)
   replace B1s:w.heap.size+1<u8.heap.size:=(by omega)
   replace B2c0:u8.cell? ⟨u6.heap.size,0,none⟩=some (.slice ax0 nx0 cx0):=(by rw [(bcell hc).1 _ _ B2s];exact B2c0)
   replace B2s:u6.heap.size<u8.heap.size:=(by omega)
   have B3c0:u8.cell? ⟨u7.heap.size,0,none⟩=some (.int .i64 nv1):=(by rw [(bcell hb).1 _ _ (by first | omega | (simp;done) | (simp;omega))];first | with_reducible assumption | (go_simp;done) | assumption | (simp [World.cell?];done))
   have B3c1:u8.cell? ⟨u7.heap.size,1,none⟩=some (.slice ax1 nx1 cx1):=(by rw [(bcell hb).1 _ _ (by first | omega | (simp;done) | (simp;omega))];first | with_reducible assumption | (go_simp;done) | assumption | (simp [World.cell?];done))
   have B3c2:u8.cell? ⟨u7.heap.size,2,none⟩=some (.slice uax1 unx1 ucx1):=(by rw [(bcell hb).1 _ _ (by first | omega | (simp;done) | (simp;omega))];first | with_reducible assumption | (go_simp;done) | assumption | (simp [World.cell?];done))
   have B3p:u7.heap.size<u8.heap.size:=World.block_lt_of_cell? _ _ B3c0
   have B3s:u7.heap.size<u8.heap.size:=B3p
   replace DA0:Hid (TablesA false (0) w.heap.size u8 a0 n0 c0 xs0):=hid (beTables DA0.out hc (by omega))
   replace DA1:Hid (QueryA false (0) w.heap.size u8 nv1 a1 n1 c1 xs1 ua1 un1 uc1 us1):=hid (beQuery DA1.out hc (by omega))
   replace DW:Hid (IntsA true (u4.heap.size) u5.heap.size u8 aW nW cW dxs):=hid (beInts DW.out hc (by omega))
   replace Dx0:Hid (TablesA true (u5.heap.size) u6.heap.size u8 ax0 nx0 cx0 xs0):=hid (beTables Dx0.out hc (by omega))
   replace Dx1:Hid (QueryA true (u6.heap.size+1) u7.heap.size u8 nv1 ax1 nx1 cx1 xs1 uax1 unx1 ucx1 us1):=hid (beQuery Dx1.out hc (by omega))
   replace HW:Hid (Below w.heap.size w u8):=hid (Below.calm HW.out hc)
   have DG:Hid (IntsA true (u7.heap.size+1) u8.heap.size u8 aG nG cG dxs):=hid (wdInts ho leA)
   clear ho hb hc
   go_wp2_with fail
   refine (eqK_IntL aG aW nG cG nW cW dxs _ ((beInts (B:=u8.heap.size) DG.out belA leA)) leA (beInts (B:=u8.heap.size) DW.out belA leA) leA).mono ?_
   rintro e u9 ⟨rfl,hb⟩
   have hc:Below u8.heap.size u8 u9:=Below.trans belA (hb.mono leA)
   have z9:u8.heap.size≤u9.heap.size:=hc.size
   replace B0c0:u9.cell? ⟨w.heap.size,0,none⟩=some (.slice a0 n0 c0):=(by rw [(bcell hc).1 _ _ B0s];exact B0c0)
   replace B0s:w.heap.size<u9.heap.size:=(by omega)
   replace B1c0:u9.cell? ⟨w.heap.size+1,0,none⟩=some (.int .i64 nv1):=(by rw [(bcell hc).1 _ _ B1s];exact B1c0)
   replace B1c1:u9.cell? ⟨w.heap.size+1,1,none⟩=some (.slice a1 n1 c1):=(by rw [(bcell hc).1 _ _ B1s];exact B1c1)
   replace B1c2:u9.cell? ⟨w.heap.size+1,2,none⟩=some (.slice ua1 un1 uc1):=(by rw [(bcell hc).1 _ _ B1s];exact B1c2)
   replace B1s:w.heap.size+1<u9.heap.size:=(by omega)
   replace B2c0:u9.cell? ⟨u6.heap.size,0,none⟩=some (.slice ax0 nx0 cx0):=(by rw [(bcell hc).1 _ _ B2s];exact B2c0)
   replace B2s:u6.heap.size<u9.heap.size:=(by omega)
   replace B3c0:u9.cell? ⟨u7.heap.size,0,none⟩=some (.int .i64 nv1):=(by rw [(bcell hc).1 _ _ B3s];exact B3c0)
   replace B3c1:u9.cell? ⟨u7.heap.size,1,none⟩=some (.slice ax1 nx1 cx1):=(by rw [(bcell hc).1 _ _ B3s];exact B3c1)
   replace B3c2:u9.cell? ⟨u7.heap.size,2,none⟩=some (.slice uax1 unx1 ucx1):=(by rw [(bcell hc).1 _ _ B3s];exact B3c2)
   replace B3s:u7.heap.size<u9.heap.size:=(by omega)
   replace DA0:Hid (TablesA false (0) w.heap.size u9 a0 n0 c0 xs0):=hid (beTables DA0.out hc (by omega))
   replace DA1:Hid (QueryA false (0) w.heap.size u9 nv1 a1 n1 c1 xs1 ua1 un1 uc1 us1):=hid (beQuery DA1.out hc (by omega))
   replace DW:Hid (IntsA true (u4.heap.size) u5.heap.size u9 aW nW cW dxs):=hid (beInts DW.out hc (by omega))
   replace Dx0:Hid (TablesA true (u5.heap.size) u6.heap.size u9 ax0 nx0 cx0 xs0):=hid (beTables Dx0.out hc (by omega))
   replace Dx1:Hid (QueryA true (u6.heap.size+1) u7.heap.size u9 nv1 ax1 nx1 cx1 xs1 uax1 unx1 ucx1 us1):=hid (beQuery Dx1.out hc (by omega))
   replace DG:Hid (IntsA true (u7.heap.size+1) u8.heap.size u9 aG nG cG dxs):=hid (beInts DG.out hc (by omega))
   replace HW:Hid (Below w.heap.size w u9):=hid (Below.calm HW.out hc)
   clear hb hc
   go_wp2_with fail
   go_region_held3 (fun w'=>w'.cell? ⟨w.heap.size,0,none⟩=some (.slice a0 n0 c0)∧w'.cell? ⟨w.heap.size+1,0,none⟩=some (.int .i64 nv1)∧w'.cell? ⟨w.heap.size+1,1,none⟩=some (.slice a1 n1 c1)∧w'.cell? ⟨w.heap.size+1,2,none⟩=some (.slice ua1 un1 uc1)∧w'.cell? ⟨u6.heap.size,0,none⟩=some (.slice ax0 nx0 cx0)∧w'.cell? ⟨u7.heap.size,0,none⟩=some (.int .i64 nv1)∧w'.cell? ⟨u7.heap.size,1,none⟩=some (.slice ax1 nx1 cx1)∧w'.cell? ⟨u7.heap.size,2,none⟩=some (.slice uax1 unx1 ucx1)) (refine ⟨?_,?_,?_,?_,?_,?_,?_,?_⟩ <;> assumption)
    (first | (go_at_call 7;refine (toK_Db a0 n0 c0 xs0 _ (beTables (B:=u9.heap.size) DA0.out belA leA) leA HS0.out).mono ?_;rintro e u10 ⟨ay0,ny0,cy0,rfl,ho,hb⟩;have hc:Below u9.heap.size u9 u10:=Below.trans belA (hb.mono leA);have z10:u9.heap.size≤u10.heap.size:=hc.size;replace B0c0:u10.cell? ⟨w.heap.size,0,none⟩=some (.slice a0 n0 c0):=(by rw [(bcell hc).1 _ _ B0s];exact B0c0);replace B0s:w.heap.size<u10.heap.size:=(by omega);replace B1c0:u10.cell? ⟨w.heap.size+1,0,none⟩=some (.int .i64 nv1):=(by rw [(bcell hc).1 _ _ B1s];exact B1c0);replace B1c1:u10.cell? ⟨w.heap.size+1,1,none⟩=some (.slice a1 n1 c1):=(by rw [(bcell hc).1 _ _ B1s];exact B1c1);replace B1c2:u10.cell? ⟨w.heap.size+1,2,none⟩=some (.slice ua1 un1 uc1):=(by rw [(bcell hc).1 _ _ B1s];exact B1c2);replace B1s:w.heap.size+1<u10.heap.size:=(by omega);replace B2c0:u10.cell? ⟨u6.heap.size,0,none⟩=some (.slice ax0 nx0 cx0):=(by rw [(bcell hc).1 _ _ B2s];exact B2c0);replace B2s:u6.heap.size<u10.heap.size:=(by omega);replace B3c0:u10.cell? ⟨u7.heap.size,0,none⟩=some (.int .i64 nv1):=(by rw [(bcell hc).1 _ _ B3s];exact B3c0);replace B3c1:u10.cell? ⟨u7.heap.size,1,none⟩=some (.slice ax1 nx1 cx1):=(by rw [(bcell hc).1 _ _ B3s];exact B3c1);replace B3c2:u10.cell? ⟨u7.heap.size,2,none⟩=some (.slice uax1 unx1 ucx1):=(by rw [(bcell hc).1 _ _ B3s];exact B3c2);replace B3s:u7.heap.size<u10.heap.size:=(by omega);replace DA0:Hid (TablesA false (0) w.heap.size u10 a0 n0 c0 xs0):=hid (beTables DA0.out hc (by omega));replace DA1:Hid (QueryA false (0) w.heap.size u10 nv1 a1 n1 c1 xs1 ua1 un1 uc1 us1):=hid (beQuery DA1.out hc (by omega));replace DW:Hid (IntsA true (u4.heap.size) u5.heap.size u10 aW nW cW dxs):=hid (beInts DW.out hc (by omega));replace Dx0:Hid (TablesA true (u5.heap.size) u6.heap.size u10 ax0 nx0 cx0 xs0):=hid (beTables Dx0.out hc (by omega));replace Dx1:Hid (QueryA true (u6.heap.size+1) u7.heap.size u10 nv1 ax1 nx1 cx1 xs1 uax1 unx1 ucx1 us1):=hid (beQuery Dx1.out hc (by omega));replace DG:Hid (IntsA true (u7.heap.size+1) u8.heap.size u10 aG nG cG dxs):=hid (beInts DG.out hc (by omega));replace HW:Hid (Below w.heap.size w u10):=hid (Below.calm HW.out hc);have Dy0:Hid (TablesA true (u9.heap.size) u10.heap.size u10 ay0 ny0 cy0 xs0):=hid (wdTables ho leA);clear ho hb hc) | (go_at_call 11;refine (eqK_Db ax0 ay0 nx0 cx0 ny0 cy0 xs0 _ (beTables (B:=u10.heap.size) Dx0.out belA leA) leA (beTables (B:=u10.heap.size) Dy0.out belA leA) leA).mono ?_;rintro e u11 ⟨rfl,hb⟩;have hc:Below u10.heap.size u10 u11:=Below.trans belA (hb.mono leA);have z11:u10.heap.size≤u11.heap.size:=hc.size;replace B0c0:u11.cell? ⟨w.heap.size,0,none⟩=some (.slice a0 n0 c0):=(by rw [(bcell hc).1 _ _ B0s];exact B0c0);replace B0s:w.heap.size<u11.heap.size:=(by omega);replace B1c0:u11.cell? ⟨w.heap.size+1,0,none⟩=some (.int .i64 nv1):=(by rw [(bcell hc).1 _ _ B1s];exact B1c0);replace B1c1:u11.cell? ⟨w.heap.size+1,1,none⟩=some (.slice a1 n1 c1):=(by rw [(bcell hc).1 _ _ B1s];exact B1c1);replace B1c2:u11.cell? ⟨w.heap.size+1,2,none⟩=some (.slice ua1 un1 uc1):=(by rw [(bcell hc).1 _ _ B1s];exact B1c2);replace B1s:w.heap.size+1<u11.heap.size:=(by omega);replace B2c0:u11.cell? ⟨u6.heap.size,0,none⟩=some (.slice ax0 nx0 cx0):=(by rw [(bcell hc).1 _ _ B2s];exact B2c0);replace B2s:u6.heap.size<u11.heap.size:=(by omega);replace B3c0:u11.cell? ⟨u7.heap.size,0,none⟩=some (.int .i64 nv1):=(by rw [(bcell hc).1 _ _ B3s];exact B3c0);replace B3c1:u11.cell? ⟨u7.heap.size,1,none⟩=some (.slice ax1 nx1 cx1):=(by rw [(bcell hc).1 _ _ B3s];exact B3c1);replace B3c2:u11.cell? ⟨u7.heap.size,2,none⟩=some (.slice uax1 unx1 ucx1):=(by rw [(bcell hc).1 _ _ B3s];exact B3c2);replace B3s:u7.heap.size<u11.heap.size:=(by omega);replace DA0:Hid (TablesA false (0) w.heap.size u11 a0 n0 c0 xs0):=hid (beTables DA0.out hc (by omega));replace DA1:Hid (QueryA false (0) w.heap.size u11 nv1 a1 n1 c1 xs1 ua1 un1 uc1 us1):=hid (beQuery DA1.out hc (by omega));replace DW:Hid (IntsA true (u4.heap.size) u5.heap.size u11 aW nW cW dxs):=hid (beInts DW.out hc (by omega));replace Dx0:Hid (TablesA true (u5.heap.size) u6.heap.size u11 ax0 nx0 cx0 xs0):=hid (beTables Dx0.out hc (by omega));replace Dx1:Hid (QueryA true (u6.heap.size+1) u7.heap.size u11 nv1 ax1 nx1 cx1 xs1 uax1 unx1 ucx1 us1):=hid (beQuery Dx1.out hc (by omega));replace DG:Hid (IntsA true (u7.heap.size+1) u8.heap.size u11 aG nG cG dxs):=hid (beInts DG.out hc (by omega));replace HW:Hid (Below w.heap.size w u11):=hid (Below.calm HW.out hc);clear hb hc))
   go_wp2_with fail
   go_region_held3 (fun w'=>w'.cell? ⟨w.heap.size,0,none⟩=some (.slice a0 n0 c0)∧w'.cell? ⟨w.heap.size+1,0,none⟩=some (.int .i64 nv1)∧w'.cell? ⟨w.heap.size+1,1,none⟩=some (.slice a1 n1 c1)∧w'.cell? ⟨w.heap.size+1,2,none⟩=some (.slice ua1 un1 uc1)∧w'.cell? ⟨u6.heap.size,0,none⟩=some (.slice ax0 nx0 cx0)∧w'.cell? ⟨u7.heap.size,0,none⟩=some (.int .i64 nv1)∧w'.cell? ⟨u7.heap.size,1,none⟩=some (.slice ax1 nx1 cx1)∧w'.cell? ⟨u7.heap.size,2,none⟩=some (.slice uax1 unx1 ucx1)) (refine ⟨?_,?_,?_,?_,?_,?_,?_,?_⟩ <;> assumption)
    (first | (go_at_call 8;refine (toK_Query nv1 a1 n1 c1 xs1 ua1 un1 uc1 us1 _ (beQuery (B:=u11.heap.size) DA1.out belA leA) leA HS1.out).mono ?_;rintro e u12 ⟨ay1,ny1,cy1,uay1,uny1,ucy1,rfl,ho,hb⟩;have hc:Below u11.heap.size u11 u12:=Below.trans belA (hb.mono leA);have z12:u11.heap.size≤u12.heap.size:=hc.size;replace B0c0:u12.cell? ⟨w.heap.size,0,none⟩=some (.slice a0 n0 c0):=(by rw [(bcell hc).1 _ _ B0s];exact B0c0);replace B0s:w.heap.size<u12.heap.size:=(by omega);replace B1c0:u12.cell? ⟨w.heap.size+1,0,none⟩=some (.int .i64 nv1):=(by rw [(bcell hc).1 _ _ B1s];exact B1c0);replace B1c1:u12.cell? ⟨w.heap.size+1,1,none⟩=some (.slice a1 n1 c1):=(by rw [(bcell hc).1 _ _ B1s];exact B1c1);replace B1c2:u12.cell? ⟨w.heap.size+1,2,none⟩=some (.slice ua1 un1 uc1):=(by rw [(bcell hc).1 _ _ B1s];exact B1c2);replace B1s:w.heap.size+1<u12.heap.size:=(by omega);replace B2c0:u12.cell? ⟨u6.heap.size,0,none⟩=some (.slice ax0 nx0 cx0):=(by rw [(bcell hc).1 _ _ B2s];exact B2c0);replace B2s:u6.heap.size<u12.heap.size:=(by omega);replace B3c0:u12.cell? ⟨u7.heap.size,0,none⟩=some (.int .i64 nv1):=(by rw [(bcell hc).1 _ _ B3s];exact B3c0);replace B3c1:u12.cell? ⟨u7.heap.size,1,none⟩=some (.slice ax1 nx1 cx1):=(by rw [(bcell hc).1 _ _ B3s];exact B3c1);replace B3c2:u12.cell? ⟨u7.heap.size,2,none⟩=some (.slice uax1 unx1 ucx1):=(by rw [(bcell hc).1 _ _ B3s];exact B3c2);replace B3s:u7.heap.size<u12.heap.size:=(by omega);replace DA0:Hid (TablesA false (0) w.heap.size u12 a0 n0 c0 xs0):=hid (beTables DA0.out hc (by omega));replace DA1:Hid (QueryA false (0) w.heap.size u12 nv1 a1 n1 c1 xs1 ua1 un1 uc1 us1):=hid (beQuery DA1.out hc (by omega));replace DW:Hid (IntsA true (u4.heap.size) u5.heap.size u12 aW nW cW dxs):=hid (beInts DW.out hc (by omega));replace Dx0:Hid (TablesA true (u5.heap.size) u6.heap.size u12 ax0 nx0 cx0 xs0):=hid (beTables Dx0.out hc (by omega));replace Dx1:Hid (QueryA true (u6.heap.size+1) u7.heap.size u12 nv1 ax1 nx1 cx1 xs1 uax1 unx1 ucx1 us1):=hid (beQuery Dx1.out hc (by omega));replace DG:Hid (IntsA true (u7.heap.size+1) u8.heap.size u12 aG nG cG dxs):=hid (beInts DG.out hc (by omega));replace HW:Hid (Below w.heap.size w u12):=hid (Below.calm HW.out hc);have Dy1:Hid (QueryA true (u11.heap.size) u12.heap.size u12 nv1 ay1 ny1 cy1 xs1 uay1 uny1 ucy1 us1):=hid (wdQuery ho leA);clear ho hb hc) | (go_at_call 12;refine (eqK_Query nv1 ax1 nx1 cx1 xs1 uax1 unx1 ucx1 us1 ay1 ny1 cy1 uay1 uny1 ucy1 _ (beQuery (B:=u12.heap.size) Dx1.out belA leA) leA (beQuery (B:=u12.heap.size) Dy1.out belA leA) leA).mono ?_;rintro e u13 ⟨rfl,hb⟩;have hc:Below u12.heap.size u12 u13:=Below.trans belA (hb.mono leA);have z13:u12.heap.size≤u13.heap.size:=hc.size;replace B0c0:u13.cell? ⟨w.heap.size,0,none⟩=some (.slice a0 n0 c0):=(by rw [(bcell hc).1 _ _ B0s];exact B0c0);replace B0s:w.heap.size<u13.heap.size:=(by omega);replace B1c0:u13.cell? ⟨w.heap.size+1,0,none⟩=some (.int .i64 nv1):=(by rw [(bcell hc).1 _ _ B1s];exact B1c0);replace B1c1:u13.cell? ⟨w.heap.size+1,1,none⟩=some (.slice a1 n1 c1):=(by rw [(bcell hc).1 _ _ B1s];exact B1c1);replace B1c2:u13.cell? ⟨w.heap.size+1,2,none⟩=some (.slice ua1 un1 uc1):=(by rw [(bcell hc).1 _ _ B1s];exact B1c2);replace B1s:w.heap.size+1<u13.heap.size:=(by omega);replace B2c0:u13.cell? ⟨u6.heap.size,0,none⟩=some (.slice ax0 nx0 cx0):=(by rw [(bcell hc).1 _ _ B2s];exact B2c0);replace B2s:u6.heap.size<u13.heap.size:=(by omega);replace B3c0:u13.cell? ⟨u7.heap.size,0,none⟩=some (.int .i64 nv1):=(by rw [(bcell hc).1 _ _ B3s];exact B3c0);replace B3c1:u13.cell? ⟨u7.heap.size,1,none⟩=some (.slice ax1 nx1 cx1):=(by rw [(bcell hc).1 _ _ B3s];exact B3c1);replace B3c2:u13.cell? ⟨u7.heap.size,2,none⟩=some (.slice uax1 unx1 ucx1):=(by rw [(bcell hc).1 _ _ B3s];exact B3c2);replace B3s:u7.heap.size<u13.heap.size:=(by omega);replace DA0:Hid (TablesA false (0) w.heap.size u13 a0 n0 c0 xs0):=hid (beTables DA0.out hc (by omega));replace DA1:Hid (QueryA false (0) w.heap.size u13 nv1 a1 n1 c1 xs1 ua1 un1 uc1 us1):=hid (beQuery DA1.out hc (by omega));replace DW:Hid (IntsA true (u4.heap.size) u5.heap.size u13 aW nW cW dxs):=hid (beInts DW.out hc (by omega));replace Dx0:Hid (TablesA true (u5.heap.size) u6.heap.size u13 ax0 nx0 cx0 xs0):=hid (beTables Dx0.out hc (by omega));replace Dx1:Hid (QueryA true (u6.heap.size+1) u7.heap.size u13 nv1 ax1 nx1 cx1 xs1 uax1 unx1 ucx1 us1):=hid (beQuery Dx1.out hc (by omega));replace DG:Hid (IntsA true (u7.heap.size+1) u8.heap.size u13 aG nG cG dxs):=hid (beInts DG.out hc (by omega));replace HW:Hid (Below w.heap.size w u13):=hid (Below.calm HW.out hc);clear hb hc))
   have hkb:(0:Int)≤1∧(1:Int)≤1:=by omega
   have hcl0:tabCnt xs0 xs0.length≤2097152:=by have h1:=HS0.out;have h2:tabCnt xs0 xs0.length≤tabsSz xs0*2:=(by have:=tabCnt_sz xs0;omega);omega
   obtain ⟨k1,hk1⟩:∃ k:Int,k=1+(tabCnt xs0 xs0.length:Nat):=⟨_,rfl⟩
   have hkb1:0≤k1∧k1≤2097153:=by omega
   have HK1:=hid hk1;clear hk1 hcl0
   go_wp2_with fail
   refine (markK_Db ax0 nx0 cx0 xs0 1 _ (beTables (B:=u13.heap.size) Dx0.out belA leA) leA (by omega) (by omega) HS0.out).mono ?_
   rintro e u14 ⟨rfl,hm⟩
   rw [← HK1.out]
   have z14:u13.heap.size≤u14.heap.size:=hm.size
   replace B0c0:u14.cell? ⟨w.heap.size,0,none⟩=some (.slice a0 n0 c0):=(by rw [boxQ hm _ B0s (by omega)];exact B0c0)
   replace B0s:w.heap.size<u14.heap.size:=(by omega)
   replace B1c0:u14.cell? ⟨w.heap.size+1,0,none⟩=some (.int .i64 nv1):=(by rw [boxQ hm _ B1s (by omega)];exact B1c0)
   replace B1c1:u14.cell? ⟨w.heap.size+1,1,none⟩=some (.slice a1 n1 c1):=(by rw [boxQ hm _ B1s (by omega)];exact B1c1)
   replace B1c2:u14.cell? ⟨w.heap.size+1,2,none⟩=some (.slice ua1 un1 uc1):=(by rw [boxQ hm _ B1s (by omega)];exact B1c2)
   replace B1s:w.heap.size+1<u14.heap.size:=(by omega)
   replace B2c0:u14.cell? ⟨u6.heap.size,0,none⟩=some (.slice ax0 nx0 cx0):=(by rw [boxQ hm _ B2s (by omega)];exact B2c0)
   replace B2s:u6.heap.size<u14.heap.size:=(by omega)
   replace B3c0:u14.cell? ⟨u7.heap.size,0,none⟩=some (.int .i64 nv1):=(by rw [boxQ hm _ B3s (by omega)];exact B3c0)
   replace B3c1:u14.cell? ⟨u7.heap.size,1,none⟩=some (.slice ax1 nx1 cx1):=(by rw [boxQ hm _ B3s (by omega)];exact B3c1)
   replace B3c2:u14.cell? ⟨u7.heap.size,2,none⟩=some (.slice uax1 unx1 ucx1):=(by rw [boxQ hm _ B3s (by omega)];exact B3c2)
   replace B3s:u7.heap.size<u14.heap.size:=(by omega)
   replace DA0:Hid (TablesA false (0) w.heap.size u14 a0 n0 c0 xs0):=hid (kpTables DA0.out (hm.keeps (by omega) (by omega)))
   replace DA1:Hid (QueryA false (0) w.heap.size u14 nv1 a1 n1 c1 xs1 ua1 un1 uc1 us1):=hid (kpQuery DA1.out (hm.keeps (by omega) (by omega)))
   replace DW:Hid (IntsA true (u4.heap.size) u5.heap.size u14 aW nW cW dxs):=hid (kpInts DW.out (hm.keeps (by omega) (by omega)))
   replace Dx1:Hid (QueryA true (u6.heap.size+1) u7.heap.size u14 nv1 ax1 nx1 cx1 xs1 uax1 unx1 ucx1 us1):=hid (kpQuery Dx1.out (hm.keeps (by omega) (by omega)))
   replace DG:Hid (IntsA true (u7.heap.size+1) u8.heap.size u14 aG nG cG dxs):=hid (kpInts DG.out (hm.keeps (by omega) (by omega)))
   replace HW:Hid (Below w.heap.size w u14):=hid (HW.out.trans (hm.below (by omega) (by omega)))
   clear hm
   have hcl1:cntQuery xs1 us1≤1048576:=by have h1:=HS1.out;have h2:cntQuery xs1 us1≤szQuery xs1 us1:=(cntQuery_le _ _);omega
   obtain ⟨k2,hk2⟩:∃ k:Int,k=k1+(cntQuery xs1 us1:Nat):=⟨_,rfl⟩
   have hkb2:0≤k2∧k2≤3145729:=by omega
   have HK2:=hid hk2;clear hk2 hcl1
   go_wp2_with fail
   refine (markK_Query nv1 ax1 nx1 cx1 xs1 uax1 unx1 ucx1 us1 k1 _ (beQuery (B:=u14.heap.size) Dx1.out belA leA) leA (by omega) (by omega) HS1.out).mono ?_
   rintro e u15 ⟨rfl,hm⟩
   rw [← HK2.out]
   have z15:u14.heap.size≤u15.heap.size:=hm.size
   replace B0c0:u15.cell? ⟨w.heap.size,0,none⟩=some (.slice a0 n0 c0):=(by rw [boxQ hm _ B0s (by omega)];exact B0c0)
   replace B0s:w.heap.size<u15.heap.size:=(by omega)
   replace B1c0:u15.cell? ⟨w.heap.size+1,0,none⟩=some (.int .i64 nv1):=(by rw [boxQ hm _ B1s (by omega)];exact B1c0)
   replace B1c1:u15.cell? ⟨w.heap.size+1,1,none⟩=some (.slice a1 n1 c1):=(by rw [boxQ hm _ B1s (by omega)];exact B1c1)
   replace B1c2:u15.cell? ⟨w.heap.size+1,2,none⟩=some (.slice ua1 un1 uc1):=(by rw [boxQ hm _ B1s (by omega)];exact B1c2)
   replace B1s:w.heap.size+1<u15.heap.size:=(by omega)
   replace B2c0:u15.cell? ⟨u6.heap.size,0,none⟩=some (.slice ax0 nx0 cx0):=(by rw [boxQ hm _ B2s (by omega)];exact B2c0)
   replace B2s:u6.heap.size<u15.heap.size:=(by omega)
   replace B3c0:u15.cell? ⟨u7.heap.size,0,none⟩=some (.int .i64 nv1):=(by rw [boxQ hm _ B3s (by omega)];exact B3c0)
   replace B3c1:u15.cell? ⟨u7.heap.size,1,none⟩=some (.slice ax1 nx1 cx1):=(by rw [boxQ hm _ B3s (by omega)];exact B3c1)
   replace B3c2:u15.cell? ⟨u7.heap.size,2,none⟩=some (.slice uax1 unx1 ucx1):=(by rw [boxQ hm _ B3s (by omega)];exact B3c2)
   replace B3s:u7.heap.size<u15.heap.size:=(by omega)
   replace DA0:Hid (TablesA false (0) w.heap.size u15 a0 n0 c0 xs0):=hid (kpTables DA0.out (hm.keeps (by omega) (by omega)))
   replace DA1:Hid (QueryA false (0) w.heap.size u15 nv1 a1 n1 c1 xs1 ua1 un1 uc1 us1):=hid (kpQuery DA1.out (hm.keeps (by omega) (by omega)))
   replace DW:Hid (IntsA true (u4.heap.size) u5.heap.size u15 aW nW cW dxs):=hid (kpInts DW.out (hm.keeps (by omega) (by omega)))
   replace DG:Hid (IntsA true (u7.heap.size+1) u8.heap.size u15 aG nG cG dxs):=hid (kpInts DG.out (hm.keeps (by omega) (by omega)))
   replace HW:Hid (Below w.heap.size w u15):=hid (HW.out.trans (hm.below (by omega) (by omega)))
   clear hm
   go_wp2_with fail
   refine (eqK_IntL aG aW nG cG nW cW dxs _ ((beInts (B:=u15.heap.size) DG.out belA leA)) leA (beInts (B:=u15.heap.size) DW.out belA leA) leA).mono ?_
   rintro e u16 ⟨rfl,hb⟩
   have hc:Below u15.heap.size u15 u16:=Below.trans belA (hb.mono leA)
   have z16:u15.heap.size≤u16.heap.size:=hc.size
   replace B0c0:u16.cell? ⟨w.heap.size,0,none⟩=some (.slice a0 n0 c0):=(by rw [(bcell hc).1 _ _ B0s];exact B0c0)
   replace B0s:w.heap.size<u16.heap.size:=(by omega)
   replace B1c0:u16.cell? ⟨w.heap.size+1,0,none⟩=some (.int .i64 nv1):=(by rw [(bcell hc).1 _ _ B1s];exact B1c0)
   replace B1c1:u16.cell? ⟨w.heap.size+1,1,none⟩=some (.slice a1 n1 c1):=(by rw [(bcell hc).1 _ _ B1s];exact B1c1)
   replace B1c2:u16.cell? ⟨w.heap.size+1,2,none⟩=some (.slice ua1 un1 uc1):=(by rw [(bcell hc).1 _ _ B1s];exact B1c2)
   replace B1s:w.heap.size+1<u16.heap.size:=(by omega)
   replace B2c0:u16.cell? ⟨u6.heap.size,0,none⟩=some (.slice ax0 nx0 cx0):=(by rw [(bcell hc).1 _ _ B2s];exact B2c0)
   replace B2s:u6.heap.size<u16.heap.size:=(by omega)
   replace B3c0:u16.cell? ⟨u7.heap.size,0,none⟩=some (.int .i64 nv1):=(by rw [(bcell hc).1 _ _ B3s];exact B3c0)
   replace B3c1:u16.cell? ⟨u7.heap.size,1,none⟩=some (.slice ax1 nx1 cx1):=(by rw [(bcell hc).1 _ _ B3s];exact B3c1)
   replace B3c2:u16.cell? ⟨u7.heap.size,2,none⟩=some (.slice uax1 unx1 ucx1):=(by rw [(bcell hc).1 _ _ B3s];exact B3c2)
   replace B3s:u7.heap.size<u16.heap.size:=(by omega)
   replace DA0:Hid (TablesA false (0) w.heap.size u16 a0 n0 c0 xs0):=hid (beTables DA0.out hc (by omega))
   replace DA1:Hid (QueryA false (0) w.heap.size u16 nv1 a1 n1 c1 xs1 ua1 un1 uc1 us1):=hid (beQuery DA1.out hc (by omega))
   replace DW:Hid (IntsA true (u4.heap.size) u5.heap.size u16 aW nW cW dxs):=hid (beInts DW.out hc (by omega))
   replace DG:Hid (IntsA true (u7.heap.size+1) u8.heap.size u16 aG nG cG dxs):=hid (beInts DG.out hc (by omega))
   replace HW:Hid (Below w.heap.size w u16):=hid (Below.calm HW.out hc)
   clear hb hc
   have HSG:Hid (dxs.length≤1048576):=hid (by rw [← HDxs.out];exact Nat.le_trans (asF_len nv1 xs1 us1 xs0) (szQ_len HS1.out))
   obtain ⟨lenG,hlenG⟩:∃ l,l=dxs.length:=⟨_,rfl⟩
   have HLG:=hid hlenG;clear hlenG
   obtain ⟨km,hkm⟩:∃ k:Int,k=1+(lenG:Nat):=⟨_,rfl⟩
   have hkmb:0≤km:=by omega
   have hkne:(km != km)=false:=by simp
   have HKM:=hid hkm;clear hkm
   go_wp2_with fail
   refine (resK_IntL aG nG cG dxs 1 _ (beInts (B:=u16.heap.size) DG.out belA leA) leA (by omega) (by omega) HSG.out).mono ?_
   rintro e u17 ⟨rfl,hm,ho⟩
   rw [← HLG.out];rw [← HKM.out]
   have z17:u16.heap.size≤u17.heap.size:=hm.size
   replace B0c0:u17.cell? ⟨w.heap.size,0,none⟩=some (.slice a0 n0 c0):=(by rw [boxG hm _ B0s (by omega)];exact B0c0)
   replace B0s:w.heap.size<u17.heap.size:=(by omega)
   replace B1c0:u17.cell? ⟨w.heap.size+1,0,none⟩=some (.int .i64 nv1):=(by rw [boxG hm _ B1s (by omega)];exact B1c0)
   replace B1c1:u17.cell? ⟨w.heap.size+1,1,none⟩=some (.slice a1 n1 c1):=(by rw [boxG hm _ B1s (by omega)];exact B1c1)
   replace B1c2:u17.cell? ⟨w.heap.size+1,2,none⟩=some (.slice ua1 un1 uc1):=(by rw [boxG hm _ B1s (by omega)];exact B1c2)
   replace B1s:w.heap.size+1<u17.heap.size:=(by omega)
   replace B2c0:u17.cell? ⟨u6.heap.size,0,none⟩=some (.slice ax0 nx0 cx0):=(by rw [boxG hm _ B2s (by omega)];exact B2c0)
   replace B2s:u6.heap.size<u17.heap.size:=(by omega)
   replace B3c0:u17.cell? ⟨u7.heap.size,0,none⟩=some (.int .i64 nv1):=(by rw [boxG hm _ B3s (by omega)];exact B3c0)
   replace B3c1:u17.cell? ⟨u7.heap.size,1,none⟩=some (.slice ax1 nx1 cx1):=(by rw [boxG hm _ B3s (by omega)];exact B3c1)
   replace B3c2:u17.cell? ⟨u7.heap.size,2,none⟩=some (.slice uax1 unx1 ucx1):=(by rw [boxG hm _ B3s (by omega)];exact B3c2)
   replace B3s:u7.heap.size<u17.heap.size:=(by omega)
   replace DA0:Hid (TablesA false (0) w.heap.size u17 a0 n0 c0 xs0):=hid (kpTables DA0.out (hm.keeps (by omega) (by omega)))
   replace DA1:Hid (QueryA false (0) w.heap.size u17 nv1 a1 n1 c1 xs1 ua1 un1 uc1 us1):=hid (kpQuery DA1.out (hm.keeps (by omega) (by omega)))
   replace DW:Hid (IntsA true (u4.heap.size) u5.heap.size u17 aW nW cW dxs):=hid (kpInts DW.out (hm.keeps (by omega) (by omega)))
   replace HW:Hid (Below w.heap.size w u17):=hid (HW.out.trans (hm.below (by omega) (by omega)))
   have DM:Hid (IntsA true (u7.heap.size+1) u8.heap.size u17 aG nG cG (marks 1 (dxs).length)):=hid ho
   clear ho hm
   go_wp2_with fail
   refine (heldK_IntL aG nG cG dxs 1 _ (beInts (B:=u17.heap.size) DM.out belA leA) leA (by omega) (by omega) HSG.out).mono ?_
   rintro e u18 ⟨rfl,hb⟩
   rw [← HLG.out,← HKM.out]
   have hc:Below u17.heap.size u17 u18:=Below.trans belA (hb.mono leA)
   have z18:u17.heap.size≤u18.heap.size:=hc.size
   replace B0c0:u18.cell? ⟨w.heap.size,0,none⟩=some (.slice a0 n0 c0):=(by rw [(bcell hc).1 _ _ B0s];exact B0c0)
   replace B0s:w.heap.size<u18.heap.size:=(by omega)
   replace B1c0:u18.cell? ⟨w.heap.size+1,0,none⟩=some (.int .i64 nv1):=(by rw [(bcell hc).1 _ _ B1s];exact B1c0)
   replace B1c1:u18.cell? ⟨w.heap.size+1,1,none⟩=some (.slice a1 n1 c1):=(by rw [(bcell hc).1 _ _ B1s];exact B1c1)
   replace B1c2:u18.cell? ⟨w.heap.size+1,2,none⟩=some (.slice ua1 un1 uc1):=(by rw [(bcell hc).1 _ _ B1s];exact B1c2)
   replace B1s:w.heap.size+1<u18.heap.size:=(by omega)
   replace B2c0:u18.cell? ⟨u6.heap.size,0,none⟩=some (.slice ax0 nx0 cx0):=(by rw [(bcell hc).1 _ _ B2s];exact B2c0)
   replace B2s:u6.heap.size<u18.heap.size:=(by omega)
   replace B3c0:u18.cell? ⟨u7.heap.size,0,none⟩=some (.int .i64 nv1):=(by rw [(bcell hc).1 _ _ B3s];exact B3c0)
   replace B3c1:u18.cell? ⟨u7.heap.size,1,none⟩=some (.slice ax1 nx1 cx1):=(by rw [(bcell hc).1 _ _ B3s];exact B3c1)
   replace B3c2:u18.cell? ⟨u7.heap.size,2,none⟩=some (.slice uax1 unx1 ucx1):=(by rw [(bcell hc).1 _ _ B3s];exact B3c2)
   replace B3s:u7.heap.size<u18.heap.size:=(by omega)
   replace DA0:Hid (TablesA false (0) w.heap.size u18 a0 n0 c0 xs0):=hid (beTables DA0.out hc (by omega))
   replace DA1:Hid (QueryA false (0) w.heap.size u18 nv1 a1 n1 c1 xs1 ua1 un1 uc1 us1):=hid (beQuery DA1.out hc (by omega))
   replace DW:Hid (IntsA true (u4.heap.size) u5.heap.size u18 aW nW cW dxs):=hid (beInts DW.out hc (by omega))
   replace DM:Hid (IntsA true (u7.heap.size+1) u8.heap.size u18 aG nG cG (marks 1 (dxs).length)):=hid (beInts DM.out hc (by omega))
   replace HW:Hid (Below w.heap.size w u18):=hid (Below.calm HW.out hc)
   clear hb hc
   go_wp2_with fail
   go_region_held3 (fun w'=>w'.cell? ⟨w.heap.size,0,none⟩=some (.slice a0 n0 c0)∧w'.cell? ⟨w.heap.size+1,0,none⟩=some (.int .i64 nv1)∧w'.cell? ⟨w.heap.size+1,1,none⟩=some (.slice a1 n1 c1)∧w'.cell? ⟨w.heap.size+1,2,none⟩=some (.slice ua1 un1 uc1)∧w'.cell? ⟨u6.heap.size,0,none⟩=some (.slice ax0 nx0 cx0)∧w'.cell? ⟨u7.heap.size,0,none⟩=some (.int .i64 nv1)∧w'.cell? ⟨u7.heap.size,1,none⟩=some (.slice ax1 nx1 cx1)∧w'.cell? ⟨u7.heap.size,2,none⟩=some (.slice uax1 unx1 ucx1)) (refine ⟨?_,?_,?_,?_,?_,?_,?_,?_⟩ <;> assumption)
    (first | (go_at_call 7;(with_reducible refine (toK_Db a0 n0 c0 xs0 _ (beTables (B:=u18.heap.size) DA0.out (by repeat (first | with_reducible assumption | with_reducible exact Below.refl _ _ | with_reducible refine below_drewN ?_ _ | with_reducible refine below_drew1 ?_ | with_reducible refine Below.al ?_ (by first | with_reducible exact Nat.le_refl _ | omega | (simp;done) | (simp;omega) | exact Nat.le_refl _) _ | with_reducible refine Below.setCell ?_ (by first | with_reducible exact Nat.le_refl _ | omega | (simp;done) | (simp;omega) | exact Nat.le_refl _) _ | assumption | exact Below.refl _ _ | refine below_drewN ?_ _ | refine below_drew1 ?_ | refine Below.al ?_ (by first | with_reducible exact Nat.le_refl _ | omega | (simp;done) | (simp;omega) | exact Nat.le_refl _) _ | refine Below.setCell ?_ (by first | with_reducible exact Nat.le_refl _ | omega | (simp;done) | (simp;omega) | exact Nat.le_refl _) _)) leA) leA HS0.out).mono ?_);rintro e u19 ⟨ah0,nh0,ch0,rfl,ho,hb⟩;have hc:Below u18.heap.size u18 u19:=Below.trans (by repeat (first | with_reducible assumption | with_reducible exact Below.refl _ _ | with_reducible refine below_drewN ?_ _ | with_reducible refine below_drew1 ?_ | with_reducible refine Below.al ?_ (by first | with_reducible exact Nat.le_refl _ | omega | (simp;done) | (simp;omega) | exact Nat.le_refl _) _ | with_reducible refine Below.setCell ?_ (by first | with_reducible exact Nat.le_refl _ | omega | (simp;done) | (simp;omega) | exact Nat.le_refl _) _ | assumption | exact Below.refl _ _ | refine below_drewN ?_ _ | refine below_drew1 ?_ | refine Below.al ?_ (by first | with_reducible exact Nat.le_refl _ | omega | (simp;done) | (simp;omega) | exact Nat.le_refl _) _ | refine Below.setCell ?_ (by first | with_reducible exact Nat.le_refl _ | omega | (simp;done) | (simp;omega) | exact Nat.le_refl _) _)) (hb.mono leA);have z19:u18.heap.size≤u19.heap.size:=hc.size;replace B0c0:u19.cell? ⟨w.heap.size,0,none⟩=some (.slice a0 n0 c0):=(by rw [(bcell hc).1 _ _ B0s];exact B0c0);replace B0s:w.heap.size<u19.heap.size:=(by omega);replace B1c0:u19.cell? ⟨w.heap.size+1,0,none⟩=some (.int .i64 nv1):=(by rw [(bcell hc).1 _ _ B1s];exact B1c0);replace B1c1:u19.cell? ⟨w.heap.size+1,1,none⟩=some (.slice a1 n1 c1):=(by rw [(bcell hc).1 _ _ B1s];exact B1c1);replace B1c2:u19.cell? ⟨w.heap.size+1,2,none⟩=some (.slice ua1 un1 uc1):=(by rw [(bcell hc).1 _ _ B1s];exact B1c2);replace B1s:w.heap.size+1<u19.heap.size:=(by omega);replace B2c0:u19.cell? ⟨u6.heap.size,0,none⟩=some (.slice ax0 nx0 cx0):=(by rw [(bcell hc).1 _ _ B2s];exact B2c0);replace B2s:u6.heap.size<u19.heap.size:=(by omega);replace B3c0:u19.cell? ⟨u7.heap.size,0,none⟩=some (.int .i64 nv1):=(by rw [(bcell hc).1 _ _ B3s];exact B3c0);replace B3c1:u19.cell? ⟨u7.heap.size,1,none⟩=some (.slice ax1 nx1 cx1):=(by rw [(bcell hc).1 _ _ B3s];exact B3c1);replace B3c2:u19.cell? ⟨u7.heap.size,2,none⟩=some (.slice uax1 unx1 ucx1):=(by rw [(bcell hc).1 _ _ B3s];exact B3c2);replace B3s:u7.heap.size<u19.heap.size:=(by omega);replace DA0:Hid (TablesA false (0) w.heap.size u19 a0 n0 c0 xs0):=hid (beTables DA0.out hc (by omega));replace DA1:Hid (QueryA false (0) w.heap.size u19 nv1 a1 n1 c1 xs1 ua1 un1 uc1 us1):=hid (beQuery DA1.out hc (by omega));replace DW:Hid (IntsA true (u4.heap.size) u5.heap.size u19 aW nW cW dxs):=hid (beInts DW.out hc (by omega));replace DM:Hid (IntsA true (u7.heap.size+1) u8.heap.size u19 aG nG cG (marks 1 (dxs).length)):=hid (beInts DM.out hc (by omega));replace HW:Hid (Below w.heap.size w u19):=hid (Below.calm HW.out hc);have Dh0:Hid (TablesA true (u18.heap.size) u19.heap.size u19 ah0 nh0 ch0 xs0):=hid (wdTables ho leA);clear ho hb hc) | (go_at_call 8;(with_reducible refine (toK_Query nv1 a1 n1 c1 xs1 ua1 un1 uc1 us1 _ (beQuery (B:=u19.heap.size) DA1.out (by repeat (first | with_reducible assumption | with_reducible exact Below.refl _ _ | with_reducible refine below_drewN ?_ _ | with_reducible refine below_drew1 ?_ | with_reducible refine Below.al ?_ (by first | with_reducible exact Nat.le_refl _ | omega | (simp;done) | (simp;omega) | exact Nat.le_refl _) _ | with_reducible refine Below.setCell ?_ (by first | with_reducible exact Nat.le_refl _ | omega | (simp;done) | (simp;omega) | exact Nat.le_refl _) _ | assumption | exact Below.refl _ _ | refine below_drewN ?_ _ | refine below_drew1 ?_ | refine Below.al ?_ (by first | with_reducible exact Nat.le_refl _ | omega | (simp;done) | (simp;omega) | exact Nat.le_refl _) _ | refine Below.setCell ?_ (by first | with_reducible exact Nat.le_refl _ | omega | (simp;done) | (simp;omega) | exact Nat.le_refl _) _)) leA) leA HS1.out).mono ?_);rintro e u20 ⟨ah1,nh1,ch1,uah1,unh1,uch1,rfl,ho,hb⟩;have hc:Below u19.heap.size u19 u20:=Below.trans (by repeat (first | with_reducible assumption | with_reducible exact Below.refl _ _ | with_reducible refine below_drewN ?_ _ | with_reducible refine below_drew1 ?_ | with_reducible refine Below.al ?_ (by first | with_reducible exact Nat.le_refl _ | omega | (simp;done) | (simp;omega) | exact Nat.le_refl _) _ | with_reducible refine Below.setCell ?_ (by first | with_reducible exact Nat.le_refl _ | omega | (simp;done) | (simp;omega) | exact Nat.le_refl _) _ | assumption | exact Below.refl _ _ | refine below_drewN ?_ _ | refine below_drew1 ?_ | refine Below.al ?_ (by first | with_reducible exact Nat.le_refl _ | omega | (simp;done) | (simp;omega) | exact Nat.le_refl _) _ | refine Below.setCell ?_ (by first | with_reducible exact Nat.le_refl _ | omega | (simp;done) | (simp;omega) | exact Nat.le_refl _) _)) (hb.mono leA);have z20:u19.heap.size≤u20.heap.size:=hc.size;replace B0c0:u20.cell? ⟨w.heap.size,0,none⟩=some (.slice a0 n0 c0):=(by rw [(bcell hc).1 _ _ B0s];exact B0c0);replace B0s:w.heap.size<u20.heap.size:=(by omega);replace B1c0:u20.cell? ⟨w.heap.size+1,0,none⟩=some (.int .i64 nv1):=(by rw [(bcell hc).1 _ _ B1s];exact B1c0);replace B1c1:u20.cell? ⟨w.heap.size+1,1,none⟩=some (.slice a1 n1 c1):=(by rw [(bcell hc).1 _ _ B1s];exact B1c1);replace B1c2:u20.cell? ⟨w.heap.size+1,2,none⟩=some (.slice ua1 un1 uc1):=(by rw [(bcell hc).1 _ _ B1s];exact B1c2);replace B1s:w.heap.size+1<u20.heap.size:=(by omega);replace B2c0:u20.cell? ⟨u6.heap.size,0,none⟩=some (.slice ax0 nx0 cx0):=(by rw [(bcell hc).1 _ _ B2s];exact B2c0);replace B2s:u6.heap.size<u20.heap.size:=(by omega);replace B3c0:u20.cell? ⟨u7.heap.size,0,none⟩=some (.int .i64 nv1):=(by rw [(bcell hc).1 _ _ B3s];exact B3c0);replace B3c1:u20.cell? ⟨u7.heap.size,1,none⟩=some (.slice ax1 nx1 cx1):=(by rw [(bcell hc).1 _ _ B3s];exact B3c1);replace B3c2:u20.cell? ⟨u7.heap.size,2,none⟩=some (.slice uax1 unx1 ucx1):=(by rw [(bcell hc).1 _ _ B3s];exact B3c2);replace B3s:u7.heap.size<u20.heap.size:=(by omega);replace DA0:Hid (TablesA false (0) w.heap.size u20 a0 n0 c0 xs0):=hid (beTables DA0.out hc (by omega));replace DA1:Hid (QueryA false (0) w.heap.size u20 nv1 a1 n1 c1 xs1 ua1 un1 uc1 us1):=hid (beQuery DA1.out hc (by omega));replace DW:Hid (IntsA true (u4.heap.size) u5.heap.size u20 aW nW cW dxs):=hid (beInts DW.out hc (by omega));replace DM:Hid (IntsA true (u7.heap.size+1) u8.heap.size u20 aG nG cG (marks 1 (dxs).length)):=hid (beInts DM.out hc (by omega));replace Dh0:Hid (TablesA true (u18.heap.size) u19.heap.size u20 ah0 nh0 ch0 xs0):=hid (beTables Dh0.out hc (by omega));replace HW:Hid (Below w.heap.size w u20):=hid (Below.calm HW.out hc);have Dh1:Hid (QueryA true (u19.heap.size) u20.heap.size u20 nv1 ah1 nh1 ch1 xs1 uah1 unh1 uch1 us1):=hid (wdQuery ho leA);clear ho hb hc) | (go_at_call 9;(with_reducible refine (sizes_own (implSizesA nv1 xs1 us1 xs0 (nm_ofQ DA1.out) (nmT_of DA0.out) (db_len HS0.out) (szQ_len HS1.out)) (beTables (B:=u20.heap.size) Dh0.out (by repeat (first | with_reducible assumption | with_reducible exact Below.refl _ _ | with_reducible refine below_drewN ?_ _ | with_reducible refine below_drew1 ?_ | with_reducible refine Below.al ?_ (by first | with_reducible exact Nat.le_refl _ | omega | (simp;done) | (simp;omega) | exact Nat.le_refl _) _ | with_reducible refine Below.setCell ?_ (by first | with_reducible exact Nat.le_refl _ | omega | (simp;done) | (simp;omega) | exact Nat.le_refl _) _ | assumption | exact Below.refl _ _ | refine below_drewN ?_ _ | refine below_drew1 ?_ | refine Below.al ?_ (by first | with_reducible exact Nat.le_refl _ | omega | (simp;done) | (simp;omega) | exact Nat.le_refl _) _ | refine Below.setCell ?_ (by first | with_reducible exact Nat.le_refl _ | omega | (simp;done) | (simp;omega) | exact Nat.le_refl _) _)) leA) leA (beQuery (B:=u20.heap.size) Dh1.out (by repeat (first | with_reducible assumption | with_reducible exact Below.refl _ _ | with_reducible refine below_drewN ?_ _ | with_reducible refine below_drew1 ?_ | with_reducible refine Below.al ?_ (by first | with_reducible exact Nat.le_refl _ | omega | (simp;done) | (simp;omega) | exact Nat.le_refl _) _ | with_reducible refine Below.setCell ?_ (by first | with_reducible exact Nat.le_refl _ | omega | (simp;done) | (simp;omega) | exact Nat.le_refl _) _ | assumption | exact Below.refl _ _ | refine below_drewN ?_ _ | refine below_drew1 ?_ | refine Below.al ?_ (by first | with_reducible exact Nat.le_refl _ | omega | (simp;done) | (simp;omega) | exact Nat.le_refl _) _ | refine Below.setCell ?_ (by first | with_reducible exact Nat.le_refl _ | omega | (simp;done) | (simp;omega) | exact Nat.le_refl _) _)) leA) leA).mono ?_);rintro e u21 ⟨aE,nE,cE,rfl,ho,hb⟩;rw [HDxs.out] at ho;rw [HRB.out];have hc:Below u20.heap.size u20 u21:=Below.trans (by repeat (first | with_reducible assumption | with_reducible exact Below.refl _ _ | with_reducible refine below_drewN ?_ _ | with_reducible refine below_drew1 ?_ | with_reducible refine Below.al ?_ (by first | with_reducible exact Nat.le_refl _ | omega | (simp;done) | (simp;omega) | exact Nat.le_refl _) _ | with_reducible refine Below.setCell ?_ (by first | with_reducible exact Nat.le_refl _ | omega | (simp;done) | (simp;omega) | exact Nat.le_refl _) _ | assumption | exact Below.refl _ _ | refine below_drewN ?_ _ | refine below_drew1 ?_ | refine Below.al ?_ (by first | with_reducible exact Nat.le_refl _ | omega | (simp;done) | (simp;omega) | exact Nat.le_refl _) _ | refine Below.setCell ?_ (by first | with_reducible exact Nat.le_refl _ | omega | (simp;done) | (simp;omega) | exact Nat.le_refl _) _)) (hb.mono leA);have z21:u20.heap.size≤u21.heap.size:=hc.size;replace B0c0:u21.cell? ⟨w.heap.size,0,none⟩=some (.slice a0 n0 c0):=(by rw [(bcell hc).1 _ _ B0s];exact B0c0);replace B0s:w.heap.size<u21.heap.size:=(by omega);replace B1c0:u21.cell? ⟨w.heap.size+1,0,none⟩=some (.int .i64 nv1):=(by rw [(bcell hc).1 _ _ B1s];exact B1c0);replace B1c1:u21.cell? ⟨w.heap.size+1,1,none⟩=some (.slice a1 n1 c1):=(by rw [(bcell hc).1 _ _ B1s];exact B1c1);replace B1c2:u21.cell? ⟨w.heap.size+1,2,none⟩=some (.slice ua1 un1 uc1):=(by rw [(bcell hc).1 _ _ B1s];exact B1c2);replace B1s:w.heap.size+1<u21.heap.size:=(by omega);replace B2c0:u21.cell? ⟨u6.heap.size,0,none⟩=some (.slice ax0 nx0 cx0):=(by rw [(bcell hc).1 _ _ B2s];exact B2c0);replace B2s:u6.heap.size<u21.heap.size:=(by omega);replace B3c0:u21.cell? ⟨u7.heap.size,0,none⟩=some (.int .i64 nv1):=(by rw [(bcell hc).1 _ _ B3s];exact B3c0);replace B3c1:u21.cell? ⟨u7.heap.size,1,none⟩=some (.slice ax1 nx1 cx1):=(by rw [(bcell hc).1 _ _ B3s];exact B3c1);replace B3c2:u21.cell? ⟨u7.heap.size,2,none⟩=some (.slice uax1 unx1 ucx1):=(by rw [(bcell hc).1 _ _ B3s];exact B3c2);replace B3s:u7.heap.size<u21.heap.size:=(by omega);replace DA0:Hid (TablesA false (0) w.heap.size u21 a0 n0 c0 xs0):=hid (beTables DA0.out hc (by omega));replace DA1:Hid (QueryA false (0) w.heap.size u21 nv1 a1 n1 c1 xs1 ua1 un1 uc1 us1):=hid (beQuery DA1.out hc (by omega));replace DW:Hid (IntsA true (u4.heap.size) u5.heap.size u21 aW nW cW dxs):=hid (beInts DW.out hc (by omega));replace DM:Hid (IntsA true (u7.heap.size+1) u8.heap.size u21 aG nG cG (marks 1 (dxs).length)):=hid (beInts DM.out hc (by omega));replace Dh0:Hid (TablesA true (u18.heap.size) u19.heap.size u21 ah0 nh0 ch0 xs0):=hid (beTables Dh0.out hc (by omega));replace Dh1:Hid (QueryA true (u19.heap.size) u20.heap.size u21 nv1 ah1 nh1 ch1 xs1 uah1 unh1 uch1 us1):=hid (beQuery Dh1.out hc (by omega));replace HW:Hid (Below w.heap.size w u21):=hid (Below.calm HW.out hc);have DE:Hid (IntsA true (u20.heap.size) u21.heap.size u21 aE nE cE dxs):=hid (wdInts ho leA);clear ho hb hc))
   go_wp2_with fail
   refine (eqK_IntL aE aW nE cE nW cW dxs _ ((beInts (B:=u21.heap.size) DE.out belA leA)) leA (beInts (B:=u21.heap.size) DW.out belA leA) leA).mono ?_
   rintro e u22 ⟨rfl,hb⟩
   have hc:Below u21.heap.size u21 u22:=Below.trans belA (hb.mono leA)
   have z22:u21.heap.size≤u22.heap.size:=hc.size
   replace B0c0:u22.cell? ⟨w.heap.size,0,none⟩=some (.slice a0 n0 c0):=(by rw [(bcell hc).1 _ _ B0s];exact B0c0)
   replace B0s:w.heap.size<u22.heap.size:=(by omega)
   replace B1c0:u22.cell? ⟨w.heap.size+1,0,none⟩=some (.int .i64 nv1):=(by rw [(bcell hc).1 _ _ B1s];exact B1c0)
   replace B1c1:u22.cell? ⟨w.heap.size+1,1,none⟩=some (.slice a1 n1 c1):=(by rw [(bcell hc).1 _ _ B1s];exact B1c1)
   replace B1c2:u22.cell? ⟨w.heap.size+1,2,none⟩=some (.slice ua1 un1 uc1):=(by rw [(bcell hc).1 _ _ B1s];exact B1c2)
   replace B1s:w.heap.size+1<u22.heap.size:=(by omega)
   replace B2c0:u22.cell? ⟨u6.heap.size,0,none⟩=some (.slice ax0 nx0 cx0):=(by rw [(bcell hc).1 _ _ B2s];exact B2c0)
   replace B2s:u6.heap.size<u22.heap.size:=(by omega)
   replace B3c0:u22.cell? ⟨u7.heap.size,0,none⟩=some (.int .i64 nv1):=(by rw [(bcell hc).1 _ _ B3s];exact B3c0)
   replace B3c1:u22.cell? ⟨u7.heap.size,1,none⟩=some (.slice ax1 nx1 cx1):=(by rw [(bcell hc).1 _ _ B3s];exact B3c1)
   replace B3c2:u22.cell? ⟨u7.heap.size,2,none⟩=some (.slice uax1 unx1 ucx1):=(by rw [(bcell hc).1 _ _ B3s];exact B3c2)
   replace B3s:u7.heap.size<u22.heap.size:=(by omega)
   replace DA0:Hid (TablesA false (0) w.heap.size u22 a0 n0 c0 xs0):=hid (beTables DA0.out hc (by omega))
   replace DA1:Hid (QueryA false (0) w.heap.size u22 nv1 a1 n1 c1 xs1 ua1 un1 uc1 us1):=hid (beQuery DA1.out hc (by omega))
   replace DW:Hid (IntsA true (u4.heap.size) u5.heap.size u22 aW nW cW dxs):=hid (beInts DW.out hc (by omega))
   replace DM:Hid (IntsA true (u7.heap.size+1) u8.heap.size u22 aG nG cG (marks 1 (dxs).length)):=hid (beInts DM.out hc (by omega))
   replace Dh0:Hid (TablesA true (u18.heap.size) u19.heap.size u22 ah0 nh0 ch0 xs0):=hid (beTables Dh0.out hc (by omega))
   replace Dh1:Hid (QueryA true (u19.heap.size) u20.heap.size u22 nv1 ah1 nh1 ch1 xs1 uah1 unh1 uch1 us1):=hid (beQuery Dh1.out hc (by omega))
   replace DE:Hid (IntsA true (u20.heap.size) u21.heap.size u22 aE nE cE dxs):=hid (beInts DE.out hc (by omega))
   replace HW:Hid (Below w.heap.size w u22):=hid (Below.calm HW.out hc)
   clear hb hc
   go_wp2_with fail
   refine (heldK_IntL aG nG cG dxs 1 _ (beInts (B:=u22.heap.size) DM.out belA leA) leA (by omega) (by omega) HSG.out).mono ?_
   rintro e u23 ⟨rfl,hb⟩
   rw [← HLG.out,← HKM.out]
   have hc:Below u22.heap.size u22 u23:=Below.trans belA (hb.mono leA)
   have z23:u22.heap.size≤u23.heap.size:=hc.size
   replace B0c0:u23.cell? ⟨w.heap.size,0,none⟩=some (.slice a0 n0 c0):=(by rw [(bcell hc).1 _ _ B0s];exact B0c0)
   replace B0s:w.heap.size<u23.heap.size:=(by omega)
   replace B1c0:u23.cell? ⟨w.heap.size+1,0,none⟩=some (.int .i64 nv1):=(by rw [(bcell hc).1 _ _ B1s];exact B1c0)
   replace B1c1:u23.cell? ⟨w.heap.size+1,1,none⟩=some (.slice a1 n1 c1):=(by rw [(bcell hc).1 _ _ B1s];exact B1c1)
   replace B1c2:u23.cell? ⟨w.heap.size+1,2,none⟩=some (.slice ua1 un1 uc1):=(by rw [(bcell hc).1 _ _ B1s];exact B1c2)
   replace B1s:w.heap.size+1<u23.heap.size:=(by omega)
   replace B2c0:u23.cell? ⟨u6.heap.size,0,none⟩=some (.slice ax0 nx0 cx0):=(by rw [(bcell hc).1 _ _ B2s];exact B2c0)
   replace B2s:u6.heap.size<u23.heap.size:=(by omega)
   replace B3c0:u23.cell? ⟨u7.heap.size,0,none⟩=some (.int .i64 nv1):=(by rw [(bcell hc).1 _ _ B3s];exact B3c0)
   replace B3c1:u23.cell? ⟨u7.heap.size,1,none⟩=some (.slice ax1 nx1 cx1):=(by rw [(bcell hc).1 _ _ B3s];exact B3c1)
   replace B3c2:u23.cell? ⟨u7.heap.size,2,none⟩=some (.slice uax1 unx1 ucx1):=(by rw [(bcell hc).1 _ _ B3s];exact B3c2)
   replace B3s:u7.heap.size<u23.heap.size:=(by omega)
   replace DA0:Hid (TablesA false (0) w.heap.size u23 a0 n0 c0 xs0):=hid (beTables DA0.out hc (by omega))
   replace DA1:Hid (QueryA false (0) w.heap.size u23 nv1 a1 n1 c1 xs1 ua1 un1 uc1 us1):=hid (beQuery DA1.out hc (by omega))
   replace DW:Hid (IntsA true (u4.heap.size) u5.heap.size u23 aW nW cW dxs):=hid (beInts DW.out hc (by omega))
   replace DM:Hid (IntsA true (u7.heap.size+1) u8.heap.size u23 aG nG cG (marks 1 (dxs).length)):=hid (beInts DM.out hc (by omega))
   replace Dh0:Hid (TablesA true (u18.heap.size) u19.heap.size u23 ah0 nh0 ch0 xs0):=hid (beTables Dh0.out hc (by omega))
   replace Dh1:Hid (QueryA true (u19.heap.size) u20.heap.size u23 nv1 ah1 nh1 ch1 xs1 uah1 unh1 uch1 us1):=hid (beQuery Dh1.out hc (by omega))
   replace DE:Hid (IntsA true (u20.heap.size) u21.heap.size u23 aE nE cE dxs):=hid (beInts DE.out hc (by omega))
   replace HW:Hid (Below w.heap.size w u23):=hid (Below.calm HW.out hc)
   clear hb hc
   go_wp2_with fail
   go_ret
   exact ⟨rfl,HW.out⟩
  ·rw [szI_no hsz1]
   have HQ1:=hid hsz1;clear hsz1
   go_wp2_with fail
   go_ret
   exact ⟨rfl,HW.out⟩
 ·rw [szI_no hsz0]
  have HQ0:=hid hsz0;clear hsz0
  go_wp2_with fail
  go_ret
  exact ⟨rfl,HW.out⟩
end Go.Proofs.Ytlpdbkhekbdceaa
