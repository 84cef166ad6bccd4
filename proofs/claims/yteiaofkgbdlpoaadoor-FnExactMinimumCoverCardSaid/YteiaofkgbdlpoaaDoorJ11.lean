/- Lemmas for the proof of FnExactMaximumPacking, part 11 of 27: no condition of their own. -/
import Derived.Test.YteiaofkgbdlpoaaDoorJ10
import Derived.Test.YteiaofkgbdlpoaaDoorJ1
import Derived.Test.YteiaofkgbdlpoaaDoorJ9
import Derived.Test.YteiaofkgbdlpoaaDoorJ8
namespace Go.Proofs.YteiaofkgbdlpoaaDoor
set_option linter.unusedSimpArgs false
set_option linter.unusedVariables false
open Go.RowKit
theorem mul_bd {x y:Int} (h1:-1000000000≤x∧x≤1000000000) (h2:-1000000000≤y∧y≤1000000000):-1000000000000000000≤x*y∧x*y≤1000000000000000000:=by
 have h:(x*y).natAbs≤1000000000*1000000000:=by rw [Int.natAbs_mul];exact Nat.mul_le_mul (by omega) (by omega)
 omega
def bothOK (an ad bn bd:Int):Bool:=ratOK an ad && ratOK bn bd
def addR (an ad bn bd:Int):Int×Int×Bool:=if bothOK an ad bn bd=true then newRat (an*bd+bn*ad) (ad*bd) else (0,0,false)
def mulR (an ad bn bd:Int):Int×Int×Bool:=if bothOK an ad bn bd=true then newRat (an*bn) (ad*bd) else (0,0,false)
def divR (an ad bn bd:Int):Int×Int×Bool:=if bothOK an ad bn bd=true then newRat (an*bd) (ad*bn) else (0,0,false)
def subR (an ad bn bd:Int):Int×Int×Bool:=addR an ad (-bn) bd
def cmpRat (an ad bn bd:Int):Int:=if bothOK an ad bn bd=true then cmpI (an*bd) (bn*ad) else 0
theorem ratOK_b {n d:Int} (h:ratOK n d=true):(-1000000000≤n∧n≤1000000000)∧(-1000000000≤d∧d≤1000000000)∧0<d:=by
 obtain ⟨h1,h2,_⟩:=ratOK_out h
 omega
theorem bothOK_out {an ad bn bd:Int} (h:bothOK an ad bn bd=true):ratOK an ad=true∧ratOK bn bd=true:=by simpa [bothOK] using h
theorem ops_bd {an ad bn bd:Int} (h:bothOK an ad bn bd=true):(-1000000000000000000≤an*bd∧an*bd≤1000000000000000000)∧(-1000000000000000000≤bn*ad∧bn*ad≤1000000000000000000)∧(-1000000000000000000≤ad*bd∧ad*bd≤1000000000000000000)∧(-1000000000000000000≤an*bn∧an*bn≤1000000000000000000)∧(-1000000000000000000≤ad*bn∧ad*bn≤1000000000000000000):=by
 obtain ⟨h1,h2⟩:=bothOK_out h
 have k1:=ratOK_b h1;have k2:=ratOK_b h2
 exact ⟨mul_bd k1.1 k2.2.1,mul_bd k2.1 k1.2.1,mul_bd k1.2.1 k2.2.1,mul_bd k1.1 k2.1,mul_bd k1.2.1 k2.1⟩
set_option maxHeartbeats 1600000 in
theorem implBothValid (an ad bn bd:Int) (w:World) (h1:I64 an) (h2:I64 ad) (h3:I64 bn) (h4:I64 bd) :
 Calls Tryd.prog 91 #[ratV an ad,ratV bn bd] w (Leaves w (.bool (bothOK an ad bn bd))):=by
 have HI:=hid (And.intro h1 (And.intro h2 (And.intro h3 h4)));clear h1 h2 h3 h4
 obtain ⟨k,hk⟩:∃ k,ratOK an ad=k:=⟨_,rfl⟩
 have hb:bothOK an ad bn bd=(k && ratOK bn bd):=by unfold bothOK;rw [hk]
 have HK:=hid (And.intro hk hb);clear hk hb
 cases k with
 | false =>
  go_enter Tryd.func91,Tryd.ntmps91
  go_wp2_with fail
  refine (implValidRat an ad _ HI.out.1 HI.out.2.1).mono ?_
  rintro e w1 ⟨rfl,hb1⟩
  rw [HK.out.1]
  have hb2:Below w.heap.size w w1:=Below.trans (by repeat (first | with_reducible assumption | with_reducible exact Below.refl _ _ | with_reducible refine below_drewN ?_ _ | with_reducible refine below_drew1 ?_ | with_reducible refine Below.al ?_ (by first | with_reducible exact Nat.le_refl _ | omega | (simp;done) | (simp;omega) | exact Nat.le_refl _) _ | with_reducible refine Below.setCell ?_ (by first | with_reducible exact Nat.le_refl _ | omega | (simp;done) | (simp;omega) | exact Nat.le_refl _) _ | assumption | exact Below.refl _ _ | refine below_drewN ?_ _ | refine below_drew1 ?_ | refine Below.al ?_ (by first | with_reducible exact Nat.le_refl _ | omega | (simp;done) | (simp;omega) | exact Nat.le_refl _) _ | refine Below.setCell ?_ (by first | with_reducible exact Nat.le_refl _ | omega | (simp;done) | (simp;omega) | exact Nat.le_refl _) _)) (hb1.mono leA)
  have HB:=hid hb2;clear hb1 hb2
  go_wp2_with fail
  go_ret
  exact ⟨by rw [HK.out.2];rfl,HB.out⟩
 | true =>
  go_enter Tryd.func91,Tryd.ntmps91
  go_wp2_with fail
  refine (implValidRat an ad _ HI.out.1 HI.out.2.1).mono ?_
  rintro e w1 ⟨rfl,hb1⟩
  rw [HK.out.1]
  have hz:=hb1.size
  simp at hz
  have hb2:Below w.heap.size w w1:=Below.trans (by repeat (first | with_reducible assumption | with_reducible exact Below.refl _ _ | with_reducible refine below_drewN ?_ _ | with_reducible refine below_drew1 ?_ | with_reducible refine Below.al ?_ (by first | with_reducible exact Nat.le_refl _ | omega | (simp;done) | (simp;omega) | exact Nat.le_refl _) _ | with_reducible refine Below.setCell ?_ (by first | with_reducible exact Nat.le_refl _ | omega | (simp;done) | (simp;omega) | exact Nat.le_refl _) _ | assumption | exact Below.refl _ _ | refine below_drewN ?_ _ | refine below_drew1 ?_ | refine Below.al ?_ (by first | with_reducible exact Nat.le_refl _ | omega | (simp;done) | (simp;omega) | exact Nat.le_refl _) _ | refine Below.setCell ?_ (by first | with_reducible exact Nat.le_refl _ | omega | (simp;done) | (simp;omega) | exact Nat.le_refl _) _)) (hb1.mono leA)
  have q0:w1.cell? ⟨w.heap.size+1,0,none⟩=some (.int .i64 bn):=(by rw [(bcell hb1).1 _ _ (by first | omega | (simp;done) | (simp;omega))];first | with_reducible assumption | (go_simp;done) | assumption | (simp [World.cell?];done))
  have q1:w1.cell? ⟨w.heap.size+1,1,none⟩=some (.int .i64 bd):=(by rw [(bcell hb1).1 _ _ (by first | omega | (simp;done) | (simp;omega))];first | with_reducible assumption | (go_simp;done) | assumption | (simp [World.cell?];done))
  have HB:=hid hb2;clear hb1 hb2
  go_wp2_with fail
  refine (implValidRat bn bd _ HI.out.2.2.1 HI.out.2.2.2).mono ?_
  rintro e w2 ⟨rfl,hb1⟩
  have hb2:Below w.heap.size w w2:=HB.out.trans (hb1.mono (by omega))
  have HB2:=hid hb2;clear hb1 hb2
  obtain ⟨k2,hk2⟩:∃ k,ratOK bn bd=k:=⟨_,rfl⟩
  rw [hk2] at HK ⊢
  have HK2:=hid hk2;clear hk2
  go_wp2_with fail
  go_ret
  exact ⟨by rw [HK.out.2];rfl,HB2.out⟩
theorem cmpRat_no {an ad bn bd:Int} (h:bothOK an ad bn bd=false):cmpRat an ad bn bd=0:=by unfold cmpRat;rw [if_neg (by rw [h];decide)]
theorem cmpRat_yes {an ad bn bd:Int} (h:bothOK an ad bn bd=true):cmpRat an ad bn bd=cmpI (an*bd) (bn*ad):=by unfold cmpRat;rw [if_pos h]
theorem cmpI_lt {x y:Int} (h:x<y):cmpI x y = -1:=by unfold cmpI;rw [if_pos h]
theorem cmpI_gt {x y:Int} (h:y<x):cmpI x y=1:=by unfold cmpI;rw [if_neg (by omega),if_pos h]
theorem cmpI_eq {x y:Int} (h:¬ x<y) (h':¬ y<x):cmpI x y=0:=by unfold cmpI;rw [if_neg h,if_neg h']
set_option maxHeartbeats 1600000 in
theorem implCompareRationals (an ad bn bd:Int) (w:World) (h1:I64 an) (h2:I64 ad) (h3:I64 bn) (h4:I64 bd) :
 Calls Tryd.prog 74 #[ratV an ad,ratV bn bd] w (Leaves w (.int .i64 (cmpRat an ad bn bd))):=by
 have HI:=hid (And.intro h1 (And.intro h2 (And.intro h3 h4)));clear h1 h2 h3 h4
 obtain ⟨k,hk⟩:∃ k,bothOK an ad bn bd=k:=⟨_,rfl⟩
 cases k with
 | false =>
  have HF:=hid (cmpRat_no hk);have HK:=hid hk;clear hk
  go_enter Tryd.func74,Tryd.ntmps74
  go_wp2_with fail
  refine (implBothValid an ad bn bd _ HI.out.1 HI.out.2.1 HI.out.2.2.1 HI.out.2.2.2).mono ?_
  rintro e w1 ⟨rfl,hb1⟩
  rw [HK.out]
  have hb2:Below w.heap.size w w1:=Below.trans (by repeat (first | with_reducible assumption | with_reducible exact Below.refl _ _ | with_reducible refine below_drewN ?_ _ | with_reducible refine below_drew1 ?_ | with_reducible refine Below.al ?_ (by first | with_reducible exact Nat.le_refl _ | omega | (simp;done) | (simp;omega) | exact Nat.le_refl _) _ | with_reducible refine Below.setCell ?_ (by first | with_reducible exact Nat.le_refl _ | omega | (simp;done) | (simp;omega) | exact Nat.le_refl _) _ | assumption | exact Below.refl _ _ | refine below_drewN ?_ _ | refine below_drew1 ?_ | refine Below.al ?_ (by first | with_reducible exact Nat.le_refl _ | omega | (simp;done) | (simp;omega) | exact Nat.le_refl _) _ | refine Below.setCell ?_ (by first | with_reducible exact Nat.le_refl _ | omega | (simp;done) | (simp;omega) | exact Nat.le_refl _) _)) (hb1.mono leA)
  have HB:=hid hb2;clear hb1 hb2
  go_wp2_with fail
  go_ret
  exact ⟨by rw [HF.out];rfl,HB.out⟩
 | true =>
  have hO:=ops_bd hk
  have wr0:IntKind.i64.wrap (an*bd)=an*bd:=IntWalk.i64_in _ (by omega)
  have wr1:IntKind.i64.wrap (bn*ad)=bn*ad:=IntWalk.i64_in _ (by omega)
  have HF:=hid (cmpRat_yes hk);have HK:=hid hk;clear hk hO
  go_enter Tryd.func74,Tryd.ntmps74
  go_wp2_with fail
  refine (implBothValid an ad bn bd _ HI.out.1 HI.out.2.1 HI.out.2.2.1 HI.out.2.2.2).mono ?_
  rintro e w1 ⟨rfl,hb1⟩
  rw [HK.out]
  have hz:=hb1.size
  simp at hz
  have q0:w1.cell? ⟨w.heap.size,0,none⟩=some (.int .i64 an):=(by rw [(bcell hb1).1 _ _ (by first | omega | (simp;done) | (simp;omega))];first | with_reducible assumption | (go_simp;done) | assumption | (simp [World.cell?];done))
  have q1:w1.cell? ⟨w.heap.size,1,none⟩=some (.int .i64 ad):=(by rw [(bcell hb1).1 _ _ (by first | omega | (simp;done) | (simp;omega))];first | with_reducible assumption | (go_simp;done) | assumption | (simp [World.cell?];done))
  have q2:w1.cell? ⟨w.heap.size+1,0,none⟩=some (.int .i64 bn):=(by rw [(bcell hb1).1 _ _ (by first | omega | (simp;done) | (simp;omega))];first | with_reducible assumption | (go_simp;done) | assumption | (simp [World.cell?];done))
  have q3:w1.cell? ⟨w.heap.size+1,1,none⟩=some (.int .i64 bd):=(by rw [(bcell hb1).1 _ _ (by first | omega | (simp;done) | (simp;omega))];first | with_reducible assumption | (go_simp;done) | assumption | (simp [World.cell?];done))
  have hb2:Below w.heap.size w w1:=Below.trans (by repeat (first | with_reducible assumption | with_reducible exact Below.refl _ _ | with_reducible refine below_drewN ?_ _ | with_reducible refine below_drew1 ?_ | with_reducible refine Below.al ?_ (by first | with_reducible exact Nat.le_refl _ | omega | (simp;done) | (simp;omega) | exact Nat.le_refl _) _ | with_reducible refine Below.setCell ?_ (by first | with_reducible exact Nat.le_refl _ | omega | (simp;done) | (simp;omega) | exact Nat.le_refl _) _ | assumption | exact Below.refl _ _ | refine below_drewN ?_ _ | refine below_drew1 ?_ | refine Below.al ?_ (by first | with_reducible exact Nat.le_refl _ | omega | (simp;done) | (simp;omega) | exact Nat.le_refl _) _ | refine Below.setCell ?_ (by first | with_reducible exact Nat.le_refl _ | omega | (simp;done) | (simp;omega) | exact Nat.le_refl _) _)) (hb1.mono leA)
  have HB:=hid hb2;clear hb1 hb2
  go_wp2_with fail
  refine (implCmp (an*bd) (bn*ad) _).mono ?_
  rintro e w2 ⟨rfl,m,rfl⟩
  go_wp2_with fail
  go_ret
  exact ⟨by rw [HF.out];rfl,by have hq:=HB.out;exact (by repeat (first | with_reducible assumption | with_reducible exact Below.refl _ _ | with_reducible refine below_drewN ?_ _ | with_reducible refine below_drew1 ?_ | with_reducible refine Below.al ?_ (by first | with_reducible exact Nat.le_refl _ | omega | (simp;done) | (simp;omega) | exact Nat.le_refl _) _ | with_reducible refine Below.setCell ?_ (by first | with_reducible exact Nat.le_refl _ | omega | (simp;done) | (simp;omega) | exact Nat.le_refl _) _ | assumption | exact Below.refl _ _ | refine below_drewN ?_ _ | refine below_drew1 ?_ | refine Below.al ?_ (by first | with_reducible exact Nat.le_refl _ | omega | (simp;done) | (simp;omega) | exact Nat.le_refl _) _ | refine Below.setCell ?_ (by first | with_reducible exact Nat.le_refl _ | omega | (simp;done) | (simp;omega) | exact Nat.le_refl _) _))⟩
set_option maxHeartbeats 3200000 in
theorem specCompareRationals (an ad bn bd:Int) (w:World) (h1:I64 an) (h2:I64 ad) (h3:I64 bn) (h4:I64 bd) :
 Calls Tryd.prog 70 #[ratV an ad,ratV bn bd] w (Leaves w (.int .i64 (cmpRat an ad bn bd))):=by
 have HI:=hid (And.intro h1 (And.intro h2 (And.intro h3 h4)));clear h1 h2 h3 h4
 obtain ⟨ka,hka⟩:∃ k,ratOK an ad=k:=⟨_,rfl⟩
 obtain ⟨kb,hkb⟩:∃ k,ratOK bn bd=k:=⟨_,rfl⟩
 have hk:bothOK an ad bn bd=(ka && kb):=by unfold bothOK;rw [hka,hkb]
 have HA:=hid hka;have HB:=hid hkb
 clear hka hkb
 cases ka with
 | false =>
  have HF:=hid (cmpRat_no (an:=an) (ad:=ad) (bn:=bn) (bd:=bd) (by rw [hk];rfl));clear hk
  go_enter Tryd.func70,Tryd.ntmps70
  go_wp2_with fail
  refine (specValidRat an ad _ HI.out.1 HI.out.2.1).mono ?_
  rintro e w1 ⟨rfl,hb1⟩
  rw [HA.out]
  have hb2:Below w.heap.size w w1:=Below.trans (by repeat (first | with_reducible assumption | with_reducible exact Below.refl _ _ | with_reducible refine below_drewN ?_ _ | with_reducible refine below_drew1 ?_ | with_reducible refine Below.al ?_ (by first | with_reducible exact Nat.le_refl _ | omega | (simp;done) | (simp;omega) | exact Nat.le_refl _) _ | with_reducible refine Below.setCell ?_ (by first | with_reducible exact Nat.le_refl _ | omega | (simp;done) | (simp;omega) | exact Nat.le_refl _) _ | assumption | exact Below.refl _ _ | refine below_drewN ?_ _ | refine below_drew1 ?_ | refine Below.al ?_ (by first | with_reducible exact Nat.le_refl _ | omega | (simp;done) | (simp;omega) | exact Nat.le_refl _) _ | refine Below.setCell ?_ (by first | with_reducible exact Nat.le_refl _ | omega | (simp;done) | (simp;omega) | exact Nat.le_refl _) _)) (hb1.mono leA)
  have HBB:=hid hb2;clear hb1 hb2
  go_wp2_with fail
  go_ret
  exact ⟨by rw [HF.out];rfl,HBB.out⟩
 | true =>
  cases kb with
  | false =>
   have HF:=hid (cmpRat_no (an:=an) (ad:=ad) (bn:=bn) (bd:=bd) (by rw [hk];rfl));clear hk
   go_enter Tryd.func70,Tryd.ntmps70
   go_wp2_with fail
   refine (specValidRat an ad _ HI.out.1 HI.out.2.1).mono ?_
   rintro e w1 ⟨rfl,hb1⟩
   rw [HA.out]
   have hz:=hb1.size
   simp at hz
   have q2:w1.cell? ⟨w.heap.size+1,0,none⟩=some (.int .i64 bn):=(by rw [(bcell hb1).1 _ _ (by first | omega | (simp;done) | (simp;omega))];first | with_reducible assumption | (go_simp;done) | assumption | (simp [World.cell?];done))
   have q3:w1.cell? ⟨w.heap.size+1,1,none⟩=some (.int .i64 bd):=(by rw [(bcell hb1).1 _ _ (by first | omega | (simp;done) | (simp;omega))];first | with_reducible assumption | (go_simp;done) | assumption | (simp [World.cell?];done))
   have hb2:Below w.heap.size w w1:=Below.trans (by repeat (first | with_reducible assumption | with_reducible exact Below.refl _ _ | with_reducible refine below_drewN ?_ _ | with_reducible refine below_drew1 ?_ | with_reducible refine Below.al ?_ (by first | with_reducible exact Nat.le_refl _ | omega | (simp;done) | (simp;omega) | exact Nat.le_refl _) _ | with_reducible refine Below.setCell ?_ (by first | with_reducible exact Nat.le_refl _ | omega | (simp;done) | (simp;omega) | exact Nat.le_refl _) _ | assumption | exact Below.refl _ _ | refine below_drewN ?_ _ | refine below_drew1 ?_ | refine Below.al ?_ (by first | with_reducible exact Nat.le_refl _ | omega | (simp;done) | (simp;omega) | exact Nat.le_refl _) _ | refine Below.setCell ?_ (by first | with_reducible exact Nat.le_refl _ | omega | (simp;done) | (simp;omega) | exact Nat.le_refl _) _)) (hb1.mono leA)
   have HBB:=hid hb2;clear hb1 hb2
   go_wp2_with fail
   refine (specValidRat bn bd _ HI.out.2.2.1 HI.out.2.2.2).mono ?_
   rintro e w2 ⟨rfl,hb1⟩
   rw [HB.out]
   have hb2:Below w.heap.size w w2:=HBB.out.trans (hb1.mono (by omega))
   have HBC:=hid hb2;clear hb1 hb2
   go_wp2_with fail
   go_ret
   exact ⟨by rw [HF.out];rfl,HBC.out⟩
  | true =>
   have hkt:bothOK an ad bn bd=true:=by rw [hk];rfl
   have hO:=ops_bd hkt
   have wr0:IntKind.i64.wrap (an*bd)=an*bd:=IntWalk.i64_in _ (by omega)
   have wr1:IntKind.i64.wrap (bn*ad)=bn*ad:=IntWalk.i64_in _ (by omega)
   have HF:=hid (cmpRat_yes hkt);clear hk hkt hO
   obtain ⟨x,hx⟩:∃ x,an*bd=x:=⟨_,rfl⟩
   obtain ⟨y,hy⟩:∃ x,bn*ad=x:=⟨_,rfl⟩
   rw [hx,hy] at HF
   have HX:=hid (And.intro hx hy)
   rw [hx] at wr0;rw [hy] at wr1
   have wr2:IntKind.i64.wrap (an*bd)=x:=by rw [hx];exact wr0
   have wr3:IntKind.i64.wrap (bn*ad)=y:=by rw [hy];exact wr1
   clear hx hy wr0 wr1
   go_enter Tryd.func70,Tryd.ntmps70
   go_wp2_with fail
   refine (specValidRat an ad _ HI.out.1 HI.out.2.1).mono ?_
   rintro e w1 ⟨rfl,hb1⟩
   rw [HA.out]
   have hz:=hb1.size
   simp at hz
   have q0:w1.cell? ⟨w.heap.size,0,none⟩=some (.int .i64 an):=(by rw [(bcell hb1).1 _ _ (by first | omega | (simp;done) | (simp;omega))];first | with_reducible assumption | (go_simp;done) | assumption | (simp [World.cell?];done))
   have q1:w1.cell? ⟨w.heap.size,1,none⟩=some (.int .i64 ad):=(by rw [(bcell hb1).1 _ _ (by first | omega | (simp;done) | (simp;omega))];first | with_reducible assumption | (go_simp;done) | assumption | (simp [World.cell?];done))
   have q2:w1.cell? ⟨w.heap.size+1,0,none⟩=some (.int .i64 bn):=(by rw [(bcell hb1).1 _ _ (by first | omega | (simp;done) | (simp;omega))];first | with_reducible assumption | (go_simp;done) | assumption | (simp [World.cell?];done))
   have q3:w1.cell? ⟨w.heap.size+1,1,none⟩=some (.int .i64 bd):=(by rw [(bcell hb1).1 _ _ (by first | omega | (simp;done) | (simp;omega))];first | with_reducible assumption | (go_simp;done) | assumption | (simp [World.cell?];done))
   have hb2:Below w.heap.size w w1:=Below.trans (by repeat (first | with_reducible assumption | with_reducible exact Below.refl _ _ | with_reducible refine below_drewN ?_ _ | with_reducible refine below_drew1 ?_ | with_reducible refine Below.al ?_ (by first | with_reducible exact Nat.le_refl _ | omega | (simp;done) | (simp;omega) | exact Nat.le_refl _) _ | with_reducible refine Below.setCell ?_ (by first | with_reducible exact Nat.le_refl _ | omega | (simp;done) | (simp;omega) | exact Nat.le_refl _) _ | assumption | exact Below.refl _ _ | refine below_drewN ?_ _ | refine below_drew1 ?_ | refine Below.al ?_ (by first | with_reducible exact Nat.le_refl _ | omega | (simp;done) | (simp;omega) | exact Nat.le_refl _) _ | refine Below.setCell ?_ (by first | with_reducible exact Nat.le_refl _ | omega | (simp;done) | (simp;omega) | exact Nat.le_refl _) _)) (hb1.mono leA)
   have HBB:=hid hb2;clear hb1 hb2
   go_wp2_with fail
   refine (specValidRat bn bd _ HI.out.2.2.1 HI.out.2.2.2).mono ?_
   rintro e w2 ⟨rfl,hb1⟩
   rw [HB.out]
   have hz2:=hb1.size
   have r0:w2.cell? ⟨w.heap.size,0,none⟩=some (.int .i64 an):=(by rw [(bcell hb1).1 _ _ (by first | omega | (simp;done) | (simp;omega))];first | with_reducible assumption | (go_simp;done) | assumption | (simp [World.cell?];done))
   have r1:w2.cell? ⟨w.heap.size,1,none⟩=some (.int .i64 ad):=(by rw [(bcell hb1).1 _ _ (by first | omega | (simp;done) | (simp;omega))];first | with_reducible assumption | (go_simp;done) | assumption | (simp [World.cell?];done))
   have r2:w2.cell? ⟨w.heap.size+1,0,none⟩=some (.int .i64 bn):=(by rw [(bcell hb1).1 _ _ (by first | omega | (simp;done) | (simp;omega))];first | with_reducible assumption | (go_simp;done) | assumption | (simp [World.cell?];done))
   have r3:w2.cell? ⟨w.heap.size+1,1,none⟩=some (.int .i64 bd):=(by rw [(bcell hb1).1 _ _ (by first | omega | (simp;done) | (simp;omega))];first | with_reducible assumption | (go_simp;done) | assumption | (simp [World.cell?];done))
   have hb2:Below w.heap.size w w2:=HBB.out.trans (hb1.mono (by omega))
   have HBC:=hid hb2;clear hb1 hb2 q0 q1 q2 q3
   by_cases hxy:x<y
   ·have HR:=hid (cmpI_lt hxy)
    go_wp2_with fail
    go_ret
    exact ⟨by rw [HF.out,HR.out];rfl,HBC.out⟩
   ·by_cases hyx:y<x
    ·have HR:=hid (cmpI_gt hyx)
     go_wp2_with fail
     go_ret
     exact ⟨by rw [HF.out,HR.out];rfl,HBC.out⟩
    ·have HR:=hid (cmpI_eq hxy hyx)
     go_wp2_with fail
     go_ret
     exact ⟨by rw [HF.out,HR.out];rfl,HBC.out⟩
end Go.Proofs.YteiaofkgbdlpoaaDoor
namespace Go.Proofs.YteiaofkgbdlpoaaDoor
set_option linter.unusedSimpArgs false
set_option linter.unusedVariables false
attribute [local go_sem ↓] reduceIte
attribute [local go_sem] Nat.reduceEqDiff Nat.reduceLT Nat.reduceAdd Nat.reduceLeDiff Nat.reduceMul Nat.reduceBEq Nat.reduceSub reduceCtorEq Int.reduceLE Int.reduceNeg Int.reduceLT
open Go.RowKit
def rq (t:Int×Int×Bool):RatD:=⟨t.1,t.2.1⟩
def vR (x:RatD):Bool:=ratOK x.num x.den
def addQ (x y:RatD):Int×Int×Bool:=addR x.num x.den y.num y.den
def subQ (x y:RatD):Int×Int×Bool:=subR x.num x.den y.num y.den
def mulQ (x y:RatD):Int×Int×Bool:=mulR x.num x.den y.num y.den
def divQ (x y:RatD):Int×Int×Bool:=divR x.num x.den y.num y.den
def cmpQ (x y:RatD):Int:=cmpRat x.num x.den y.num y.den
def tupQ (t:Int×Int×Bool):AV:=.tup [.d (ratDV (rq t)),.d (.bool t.2.2)]
theorem cv_ratS {G:Gh} {w:World} {x:RatD} {v:Value} (h:CV G w (.d (ratDV x)) v):v=ratV x.num x.den∧I64 x.num∧I64 x.den:=by
 obtain ⟨us,h1,rfl⟩:=cvAgg.1 h
 obtain ⟨rfl,h2⟩:=cxs_two.1 h1
 exact ⟨rfl,h2⟩
def FitQ (t:Int×Int×Bool):Prop:=(t.2.2=true→ratOK t.1 t.2.1=true)∧(t.2.2=false→t.1=0∧t.2.1=0)
theorem FitQ.i64 {t:Int×Int×Bool} (h:FitQ t):I64 t.1∧I64 t.2.1:=by
 obtain ⟨a,b,c⟩:=t
 cases c with
 | true =>
  obtain ⟨h1,h2,_⟩:=ratOK_out (h.1 rfl)
  dsimp only at h1 h2
  exact ⟨by unfold I64;dsimp only;omega,by unfold I64;dsimp only;omega⟩
 | false =>
  obtain ⟨h1,h2⟩:=h.2 rfl
  simp only at h1 h2
  subst h1;subst h2
  unfold I64;simp
theorem fitNew (n d:Int):FitQ (newRat n d):=by
 unfold newRat
 dsimp only
 repeat' split
 all_goals first | exact ⟨fun h=>(by cases h),fun _=>⟨rfl,rfl⟩⟩ | exact ⟨fun _=>(by assumption),fun h=>(by cases h)⟩
theorem implValidRA (x:RatD):AFn 83 [.d (ratDV x)] [] (fun r os=>r=.d (.bool (vR x))∧os=[]):=by
 refine leaf_afn (fnOK (by kernel_rfl)) (fun _ _=>cvBool.2 rfl) ?_
 rintro w G _ ⟨v,_,rfl,h1,rfl⟩ hC
 obtain ⟨rfl,h2,h3⟩:=cv_ratS h1
 exact implValidRat _ _ w h2 h3
theorem specValidRA (x:RatD):AFn 76 [.d (ratDV x)] [] (fun r os=>r=.d (.bool (vR x))∧os=[]):=by
 refine leaf_afn (fnOK (by kernel_rfl)) (fun _ _=>cvBool.2 rfl) ?_
 rintro w G _ ⟨v,_,rfl,h1,rfl⟩ hC
 obtain ⟨rfl,h2,h3⟩:=cv_ratS h1
 exact specValidRat _ _ w h2 h3
theorem newB_res (t:Int×Int×Bool) (ht:FitQ t) (G:Gh) (w:World):CV G w (tupQ t) (ratB t):=by
 obtain ⟨i1,i2⟩:=ht.i64
 refine ⟨[.agg #[.int .i64 t.1,.int .i64 t.2.1],.bool t.2.2],rfl,_,_,rfl,?_,_,_,rfl,cvBool.2 rfl,rfl⟩
 exact cvAgg.2 ⟨[_,_],cxs_two.2 ⟨rfl,i1,i2⟩,rfl⟩
theorem implNewA (n d:Int):AFn 103 [.d (.int n),.d (.int d)] [] (fun r os=>r=tupQ (newRat n d)∧os=[]):=by
 refine leaf_afn (v:=ratB (newRat n d)) (fnOK (by kernel_rfl)) (newB_res _ (fitNew n d)) ?_
 rintro w G _ ⟨v,_,rfl,h1,u,_,rfl,h2,rfl⟩ hC
 obtain ⟨rfl,a1⟩:=cvInt.1 h1
 obtain ⟨rfl,b1⟩:=cvInt.1 h2
 exact implNewRat _ _ w a1 b1
theorem specNewA (n d:Int):AFn 97 [.d (.int n),.d (.int d)] [] (fun r os=>r=tupQ (newRat n d)∧os=[]):=by
 refine leaf_afn (v:=ratB (newRat n d)) (fnOK (by kernel_rfl)) (newB_res _ (fitNew n d)) ?_
 rintro w G _ ⟨v,_,rfl,h1,u,_,rfl,h2,rfl⟩ hC
 obtain ⟨rfl,a1⟩:=cvInt.1 h1
 obtain ⟨rfl,b1⟩:=cvInt.1 h2
 exact specNewRat _ _ w a1 b1
section
variable (x y:RatD)
theorem implBothA:AFn 91 [.d (ratDV x),.d (ratDV y)] [] (fun r os=>r=.d (.bool (vR x && vR y))∧os=[]):=by
 refine afn_of (rv:=[.tmp 4]) tyT_ok Tryd.func91 rfl (by decide +kernel) Tryd.ntmps91 rfl (by simp) ?_
 repeat' (first | refine sq ?_ | refine stp ?_ | refine blk_o (by decide) ?_ | (apply cb;(focus (simp (disch:=(first | omega | (simp;omega))) only [go_sem,w64,ratDV];try exact rfl));refine cok ?_) | (refine rgT ?_;intro K hK) | (refine dA ?_;intro K hK) | (with_reducible refine hK _ ?_;clear hK K) | (refine stq ?_;simp (disch:=(first | omega | (simp;omega))) only [go_sem,w64,ratDV]) | refine as1 ?_ | fail)
 (first | refine callA (implValidRA x) ?_ | refine callD (implValidRA x) ?_ | refine callE (implValidRA x) ?_ | refine callF (implValidRA x) ?_ ?_)
 cases hx:vR x with
 | false =>
  repeat' (first | refine sq ?_ | refine stp ?_ | refine blk_o (by decide) ?_ | (apply cb;(focus (simp (disch:=(first | omega | (simp;omega))) only [go_sem,w64,ratDV];try exact rfl));refine cok ?_) | (refine rgT ?_;intro K hK) | (refine dA ?_;intro K hK) | (with_reducible refine hK _ ?_;clear hK K) | (refine stq ?_;simp (disch:=(first | omega | (simp;omega))) only [go_sem,w64,ratDV]) | refine as1 ?_ | fail)
  (refine endA (r:=.d (.bool false)) ?_)
  exact ⟨by rw [hx];rfl,rfl⟩
 | true =>
  repeat' (first | refine sq ?_ | refine stp ?_ | refine blk_o (by decide) ?_ | (apply cb;(focus (simp (disch:=(first | omega | (simp;omega))) only [go_sem,w64,ratDV];try exact rfl));refine cok ?_) | (refine rgT ?_;intro K hK) | (refine dA ?_;intro K hK) | (with_reducible refine hK _ ?_;clear hK K) | (refine stq ?_;simp (disch:=(first | omega | (simp;omega))) only [go_sem,w64,ratDV]) | refine as1 ?_ | fail)
  (first | refine callA (implValidRA y) ?_ | refine callD (implValidRA y) ?_ | refine callE (implValidRA y) ?_ | refine callF (implValidRA y) ?_ ?_)
  repeat' (first | refine sq ?_ | refine stp ?_ | refine blk_o (by decide) ?_ | (apply cb;(focus (simp (disch:=(first | omega | (simp;omega))) only [go_sem,w64,ratDV];try exact rfl));refine cok ?_) | (refine rgT ?_;intro K hK) | (refine dA ?_;intro K hK) | (with_reducible refine hK _ ?_;clear hK K) | (refine stq ?_;simp (disch:=(first | omega | (simp;omega))) only [go_sem,w64,ratDV]) | refine as1 ?_ | fail)
  (refine endA (r:=.d (.bool (vR y))) ?_)
  exact ⟨by rw [hx];rfl,rfl⟩
theorem implAddA:AFn 90 [.d (ratDV x),.d (ratDV y)] [] (fun r os=>r=tupQ (addQ x y)∧os=[]):=by
 have hT:addQ x y=if (vR x && vR y)=true then newRat (x.num*y.den+y.num*x.den) (x.den*y.den) else (0,0,false):=rfl
 refine afn_of (rv:=[.cell 4 43,.tmp 5]) tyT_ok Tryd.func90 rfl (by decide +kernel) Tryd.ntmps90 rfl (by simp) ?_
 repeat' (first | refine sq ?_ | refine stp ?_ | refine blk_o (by decide) ?_ | (apply cb;(focus (simp (disch:=(first | omega | (simp;omega))) only [go_sem,w64,ratDV];try exact rfl));refine cok ?_) | (refine rgT ?_;intro K hK) | (refine dA ?_;intro K hK) | (with_reducible refine hK _ ?_;clear hK K) | (refine stq ?_;simp (disch:=(first | omega | (simp;omega))) only [go_sem,w64,ratDV]) | refine as1 ?_ | fail)
 (first | refine callA (implBothA x y) ?_ | refine callD (implBothA x y) ?_ | refine callE (implBothA x y) ?_ | refine callF (implBothA x y) ?_ ?_)
 cases hb:(vR x && vR y) with
 | false =>
  rw [hb,if_neg (by decide)] at hT
  repeat' (first | refine sq ?_ | refine stp ?_ | refine blk_o (by decide) ?_ | (apply cb;(focus (simp (disch:=(first | omega | (simp;omega))) only [go_sem,w64,ratDV];try exact rfl));refine cok ?_) | (refine rgT ?_;intro K hK) | (refine dA ?_;intro K hK) | (with_reducible refine hK _ ?_;clear hK K) | (refine stq ?_;simp (disch:=(first | omega | (simp;omega))) only [go_sem,w64,ratDV]) | refine as1 ?_ | fail)
  (refine endA (r:=.tup [.d (.agg [.int 0,.int 0]),.d (.bool false)]) ?_)
  exact ⟨by rw [hT];rfl,rfl⟩
 | true =>
  rw [hb,if_pos rfl] at hT
  obtain ⟨o1,o2,o3,o4,o5⟩:=ops_bd (an:=x.num) (ad:=x.den) (bn:=y.num) (bd:=y.den) hb
  have w1:IntKind.i64.wrap (x.num*y.den)=x.num*y.den:=w64 (by omega)
  have w2:IntKind.i64.wrap (y.num*x.den)=y.num*x.den:=w64 (by omega)
  have w3:IntKind.i64.wrap (x.num*y.den+y.num*x.den)=x.num*y.den+y.num*x.den:=w64 (by omega)
  have w4:IntKind.i64.wrap (x.den*y.den)=x.den*y.den:=w64 (by omega)
  repeat' (first | refine sq ?_ | refine stp ?_ | refine blk_o (by decide) ?_ | (apply cb;(focus (simp (disch:=(first | omega | (simp;omega))) only [go_sem,w64,ratDV,w1,w2,w3,w4];try exact rfl));refine cok ?_) | (refine rgT ?_;intro K hK) | (refine dA ?_;intro K hK) | (with_reducible refine hK _ ?_;clear hK K) | (refine stq ?_;simp (disch:=(first | omega | (simp;omega))) only [go_sem,w64,ratDV,w1,w2,w3,w4]) | refine as1 ?_ | fail)
  (first | refine callA (implNewA (x.num*y.den+y.num*x.den) (x.den*y.den)) ?_ | refine callD (implNewA (x.num*y.den+y.num*x.den) (x.den*y.den)) ?_ | refine callE (implNewA (x.num*y.den+y.num*x.den) (x.den*y.den)) ?_ | refine callF (implNewA (x.num*y.den+y.num*x.den) (x.den*y.den)) ?_ ?_)
  rw [← hT]
  repeat' (first | refine sq ?_ | refine stp ?_ | refine blk_o (by decide) ?_ | (apply cb;(focus (simp (disch:=(first | omega | (simp;omega))) only [go_sem,w64,tupQ,ratDV];try exact rfl));refine cok ?_) | (refine rgT ?_;intro K hK) | (refine dA ?_;intro K hK) | (with_reducible refine hK _ ?_;clear hK K) | (refine stq ?_;simp (disch:=(first | omega | (simp;omega))) only [go_sem,w64,tupQ,ratDV]) | refine as1 ?_ | fail)
  (refine endA (r:=.tup [.d (.agg [.int (rq (addQ x y)).num,.int (rq (addQ x y)).den]),.d (.bool (addQ x y).2.2)]) ?_)
  exact ⟨rfl,rfl⟩
theorem implMulA:AFn 89 [.d (ratDV x),.d (ratDV y)] [] (fun r os=>r=tupQ (mulQ x y)∧os=[]):=by
 have hT:mulQ x y=if (vR x && vR y)=true then newRat (x.num*y.num) (x.den*y.den) else (0,0,false):=rfl
 refine afn_of (rv:=[.cell 4 43,.tmp 5]) tyT_ok Tryd.func89 rfl (by decide +kernel) Tryd.ntmps89 rfl (by simp) ?_
 repeat' (first | refine sq ?_ | refine stp ?_ | refine blk_o (by decide) ?_ | (apply cb;(focus (simp (disch:=(first | omega | (simp;omega))) only [go_sem,w64,ratDV];try exact rfl));refine cok ?_) | (refine rgT ?_;intro K hK) | (refine dA ?_;intro K hK) | (with_reducible refine hK _ ?_;clear hK K) | (refine stq ?_;simp (disch:=(first | omega | (simp;omega))) only [go_sem,w64,ratDV]) | refine as1 ?_ | fail)
 (first | refine callA (implBothA x y) ?_ | refine callD (implBothA x y) ?_ | refine callE (implBothA x y) ?_ | refine callF (implBothA x y) ?_ ?_)
 cases hb:(vR x && vR y) with
 | false =>
  rw [hb,if_neg (by decide)] at hT
  repeat' (first | refine sq ?_ | refine stp ?_ | refine blk_o (by decide) ?_ | (apply cb;(focus (simp (disch:=(first | omega | (simp;omega))) only [go_sem,w64,ratDV];try exact rfl));refine cok ?_) | (refine rgT ?_;intro K hK) | (refine dA ?_;intro K hK) | (with_reducible refine hK _ ?_;clear hK K) | (refine stq ?_;simp (disch:=(first | omega | (simp;omega))) only [go_sem,w64,ratDV]) | refine as1 ?_ | fail)
  (refine endA (r:=.tup [.d (.agg [.int 0,.int 0]),.d (.bool false)]) ?_)
  exact ⟨by rw [hT];rfl,rfl⟩
 | true =>
  rw [hb,if_pos rfl] at hT
  obtain ⟨o1,o2,o3,o4,o5⟩:=ops_bd (an:=x.num) (ad:=x.den) (bn:=y.num) (bd:=y.den) hb
  have w1:IntKind.i64.wrap (x.num*y.num)=x.num*y.num:=w64 (by omega)
  have w4:IntKind.i64.wrap (x.den*y.den)=x.den*y.den:=w64 (by omega)
  repeat' (first | refine sq ?_ | refine stp ?_ | refine blk_o (by decide) ?_ | (apply cb;(focus (simp (disch:=(first | omega | (simp;omega))) only [go_sem,w64,ratDV,w1,w4];try exact rfl));refine cok ?_) | (refine rgT ?_;intro K hK) | (refine dA ?_;intro K hK) | (with_reducible refine hK _ ?_;clear hK K) | (refine stq ?_;simp (disch:=(first | omega | (simp;omega))) only [go_sem,w64,ratDV,w1,w4]) | refine as1 ?_ | fail)
  (first | refine callA (implNewA (x.num*y.num) (x.den*y.den)) ?_ | refine callD (implNewA (x.num*y.num) (x.den*y.den)) ?_ | refine callE (implNewA (x.num*y.num) (x.den*y.den)) ?_ | refine callF (implNewA (x.num*y.num) (x.den*y.den)) ?_ ?_)
  rw [← hT]
  repeat' (first | refine sq ?_ | refine stp ?_ | refine blk_o (by decide) ?_ | (apply cb;(focus (simp (disch:=(first | omega | (simp;omega))) only [go_sem,w64,tupQ,ratDV];try exact rfl));refine cok ?_) | (refine rgT ?_;intro K hK) | (refine dA ?_;intro K hK) | (with_reducible refine hK _ ?_;clear hK K) | (refine stq ?_;simp (disch:=(first | omega | (simp;omega))) only [go_sem,w64,tupQ,ratDV]) | refine as1 ?_ | fail)
  (refine endA (r:=.tup [.d (.agg [.int (rq (mulQ x y)).num,.int (rq (mulQ x y)).den]),.d (.bool (mulQ x y).2.2)]) ?_)
  exact ⟨rfl,rfl⟩
theorem specAddA:AFn 82 [.d (ratDV x),.d (ratDV y)] [] (fun r os=>r=tupQ (addQ x y)∧os=[]):=by
 have hT:addQ x y=if (vR x && vR y)=true then newRat (x.num*y.den+y.num*x.den) (x.den*y.den) else (0,0,false):=rfl
 refine afn_of (rv:=[.cell 4 43,.tmp 5]) tyT_ok Tryd.func82 rfl (by decide +kernel) Tryd.ntmps82 rfl (by simp) ?_
 repeat' (first | refine sq ?_ | refine stp ?_ | refine blk_o (by decide) ?_ | (apply cb;(focus (simp (disch:=(first | omega | (simp;omega))) only [go_sem,w64,ratDV];try exact rfl));refine cok ?_) | (refine rgT ?_;intro K hK) | (refine dA ?_;intro K hK) | (with_reducible refine hK _ ?_;clear hK K) | (refine stq ?_;simp (disch:=(first | omega | (simp;omega))) only [go_sem,w64,ratDV]) | refine as1 ?_ | fail)
 (first | refine callA (specValidRA x) ?_ | refine callD (specValidRA x) ?_ | refine callE (specValidRA x) ?_ | refine callF (specValidRA x) ?_ ?_)
 cases hx:vR x with
 | false =>
  rw [hx,if_neg (by simp)] at hT
  repeat' (first | refine sq ?_ | refine stp ?_ | refine blk_o (by decide) ?_ | (apply cb;(focus (simp (disch:=(first | omega | (simp;omega))) only [go_sem,w64,ratDV];try exact rfl));refine cok ?_) | (refine rgT ?_;intro K hK) | (refine dA ?_;intro K hK) | (with_reducible refine hK _ ?_;clear hK K) | (refine stq ?_;simp (disch:=(first | omega | (simp;omega))) only [go_sem,w64,ratDV]) | refine as1 ?_ | fail)
  (refine endA (r:=.tup [.d (.agg [.int 0,.int 0]),.d (.bool false)]) ?_)
  exact ⟨by rw [hT];rfl,rfl⟩
 | true =>
  repeat' (first | refine sq ?_ | refine stp ?_ | refine blk_o (by decide) ?_ | (apply cb;(focus (simp (disch:=(first | omega | (simp;omega))) only [go_sem,w64,ratDV];try exact rfl));refine cok ?_) | (refine rgT ?_;intro K hK) | (refine dA ?_;intro K hK) | (with_reducible refine hK _ ?_;clear hK K) | (refine stq ?_;simp (disch:=(first | omega | (simp;omega))) only [go_sem,w64,ratDV]) | refine as1 ?_ | fail)
  (first | refine callA (specValidRA y) ?_ | refine callD (specValidRA y) ?_ | refine callE (specValidRA y) ?_ | refine callF (specValidRA y) ?_ ?_)
  cases hy:vR y with
  | false =>
   rw [hx,hy,if_neg (by simp)] at hT
   repeat' (first | refine sq ?_ | refine stp ?_ | refine blk_o (by decide) ?_ | (apply cb;(focus (simp (disch:=(first | omega | (simp;omega))) only [go_sem,w64,ratDV];try exact rfl));refine cok ?_) | (refine rgT ?_;intro K hK) | (refine dA ?_;intro K hK) | (with_reducible refine hK _ ?_;clear hK K) | (refine stq ?_;simp (disch:=(first | omega | (simp;omega))) only [go_sem,w64,ratDV]) | refine as1 ?_ | fail)
   (refine endA (r:=.tup [.d (.agg [.int 0,.int 0]),.d (.bool false)]) ?_)
   exact ⟨by rw [hT];rfl,rfl⟩
  | true =>
   have hb:bothOK x.num x.den y.num y.den=true:=by show (vR x && vR y)=true;rw [hx,hy];rfl
   rw [hx,hy,Bool.true_and,if_pos rfl] at hT
   obtain ⟨o1,o2,o3,o4,o5⟩:=ops_bd (an:=x.num) (ad:=x.den) (bn:=y.num) (bd:=y.den) hb
   have w1:IntKind.i64.wrap (x.num*y.den)=x.num*y.den:=w64 (by omega)
   have w2:IntKind.i64.wrap (y.num*x.den)=y.num*x.den:=w64 (by omega)
   have w3:IntKind.i64.wrap (x.num*y.den+y.num*x.den)=x.num*y.den+y.num*x.den:=w64 (by omega)
   have w4:IntKind.i64.wrap (x.den*y.den)=x.den*y.den:=w64 (by omega)
   repeat' (first | refine sq ?_ | refine stp ?_ | refine blk_o (by decide) ?_ | (apply cb;(focus (simp (disch:=(first | omega | (simp;omega))) only [go_sem,w64,ratDV,w1,w2,w3,w4];try exact rfl));refine cok ?_) | (refine rgT ?_;intro K hK) | (refine dA ?_;intro K hK) | (with_reducible refine hK _ ?_;clear hK K) | (refine stq ?_;simp (disch:=(first | omega | (simp;omega))) only [go_sem,w64,ratDV,w1,w2,w3,w4]) | refine as1 ?_ | fail)
   (first | refine callA (specNewA (x.num*y.den+y.num*x.den) (x.den*y.den)) ?_ | refine callD (specNewA (x.num*y.den+y.num*x.den) (x.den*y.den)) ?_ | refine callE (specNewA (x.num*y.den+y.num*x.den) (x.den*y.den)) ?_ | refine callF (specNewA (x.num*y.den+y.num*x.den) (x.den*y.den)) ?_ ?_)
   rw [← hT]
   repeat' (first | refine sq ?_ | refine stp ?_ | refine blk_o (by decide) ?_ | (apply cb;(focus (simp (disch:=(first | omega | (simp;omega))) only [go_sem,w64,tupQ,ratDV];try exact rfl));refine cok ?_) | (refine rgT ?_;intro K hK) | (refine dA ?_;intro K hK) | (with_reducible refine hK _ ?_;clear hK K) | (refine stq ?_;simp (disch:=(first | omega | (simp;omega))) only [go_sem,w64,tupQ,ratDV]) | refine as1 ?_ | fail)
   (refine endA (r:=.tup [.d (.agg [.int (rq (addQ x y)).num,.int (rq (addQ x y)).den]),.d (.bool (addQ x y).2.2)]) ?_)
   exact ⟨rfl,rfl⟩
theorem specMulA:AFn 81 [.d (ratDV x),.d (ratDV y)] [] (fun r os=>r=tupQ (mulQ x y)∧os=[]):=by
 have hT:mulQ x y=if (vR x && vR y)=true then newRat (x.num*y.num) (x.den*y.den) else (0,0,false):=rfl
 refine afn_of (rv:=[.cell 4 43,.tmp 5]) tyT_ok Tryd.func81 rfl (by decide +kernel) Tryd.ntmps81 rfl (by simp) ?_
 repeat' (first | refine sq ?_ | refine stp ?_ | refine blk_o (by decide) ?_ | (apply cb;(focus (simp (disch:=(first | omega | (simp;omega))) only [go_sem,w64,ratDV];try exact rfl));refine cok ?_) | (refine rgT ?_;intro K hK) | (refine dA ?_;intro K hK) | (with_reducible refine hK _ ?_;clear hK K) | (refine stq ?_;simp (disch:=(first | omega | (simp;omega))) only [go_sem,w64,ratDV]) | refine as1 ?_ | fail)
 (first | refine callA (specValidRA x) ?_ | refine callD (specValidRA x) ?_ | refine callE (specValidRA x) ?_ | refine callF (specValidRA x) ?_ ?_)
 cases hx:vR x with
 | false =>
  rw [hx,if_neg (by simp)] at hT
  repeat' (first | refine sq ?_ | refine stp ?_ | refine blk_o (by decide) ?_ | (apply cb;(focus (simp (disch:=(first | omega | (simp;omega))) only [go_sem,w64,ratDV];try exact rfl));refine cok ?_) | (refine rgT ?_;intro K hK) | (refine dA ?_;intro K hK) | (with_reducible refine hK _ ?_;clear hK K) | (refine stq ?_;simp (disch:=(first | omega | (simp;omega))) only [go_sem,w64,ratDV]) | refine as1 ?_ | fail)
  (refine endA (r:=.tup [.d (.agg [.int 0,.int 0]),.d (.bool false)]) ?_)
  exact ⟨by rw [hT];rfl,rfl⟩
 | true =>
  repeat' (first | refine sq ?_ | refine stp ?_ | refine blk_o (by decide) ?_ | (apply cb;(focus (simp (disch:=(first | omega | (simp;omega))) only [go_sem,w64,ratDV];try exact rfl));refine cok ?_) | (refine rgT ?_;intro K hK) | (refine dA ?_;intro K hK) | (with_reducible refine hK _ ?_;clear hK K) | (refine stq ?_;simp (disch:=(first | omega | (simp;omega))) only [go_sem,w64,ratDV]) | refine as1 ?_ | fail)
  (first | refine callA (specValidRA y) ?_ | refine callD (specValidRA y) ?_ | refine callE (specValidRA y) ?_ | refine callF (specValidRA y) ?_ ?_)
  cases hy:vR y with
  | false =>
   rw [hx,hy,if_neg (by simp)] at hT
   repeat' (first | refine sq ?_ | refine stp ?_ | refine blk_o (by decide) ?_ | (apply cb;(focus (simp (disch:=(first | omega | (simp;omega))) only [go_sem,w64,ratDV];try exact rfl));refine cok ?_) | (refine rgT ?_;intro K hK) | (refine dA ?_;intro K hK) | (with_reducible refine hK _ ?_;clear hK K) | (refine stq ?_;simp (disch:=(first | omega | (simp;omega))) only [go_sem,w64,ratDV]) | refine as1 ?_ | fail)
   (refine endA (r:=.tup [.d (.agg [.int 0,.int 0]),.d (.bool false)]) ?_)
   exact ⟨by rw [hT];rfl,rfl⟩
  | true =>
   have hb:bothOK x.num x.den y.num y.den=true:=by show (vR x && vR y)=true;rw [hx,hy];rfl
   rw [hx,hy,Bool.true_and,if_pos rfl] at hT
   obtain ⟨o1,o2,o3,o4,o5⟩:=ops_bd (an:=x.num) (ad:=x.den) (bn:=y.num) (bd:=y.den) hb
   have w1:IntKind.i64.wrap (x.num*y.num)=x.num*y.num:=w64 (by omega)
   have w2:IntKind.i64.wrap (x.den*y.den)=x.den*y.den:=w64 (by omega)
   repeat' (first | refine sq ?_ | refine stp ?_ | refine blk_o (by decide) ?_ | (apply cb;(focus (simp (disch:=(first | omega | (simp;omega))) only [go_sem,w64,ratDV,w1,w2];try exact rfl));refine cok ?_) | (refine rgT ?_;intro K hK) | (refine dA ?_;intro K hK) | (with_reducible refine hK _ ?_;clear hK K) | (refine stq ?_;simp (disch:=(first | omega | (simp;omega))) only [go_sem,w64,ratDV,w1,w2]) | refine as1 ?_ | fail)
   (first | refine callA (specNewA (x.num*y.num) (x.den*y.den)) ?_ | refine callD (specNewA (x.num*y.num) (x.den*y.den)) ?_ | refine callE (specNewA (x.num*y.num) (x.den*y.den)) ?_ | refine callF (specNewA (x.num*y.num) (x.den*y.den)) ?_ ?_)
   rw [← hT]
   repeat' (first | refine sq ?_ | refine stp ?_ | refine blk_o (by decide) ?_ | (apply cb;(focus (simp (disch:=(first | omega | (simp;omega))) only [go_sem,w64,tupQ,ratDV];try exact rfl));refine cok ?_) | (refine rgT ?_;intro K hK) | (refine dA ?_;intro K hK) | (with_reducible refine hK _ ?_;clear hK K) | (refine stq ?_;simp (disch:=(first | omega | (simp;omega))) only [go_sem,w64,tupQ,ratDV]) | refine as1 ?_ | fail)
   (refine endA (r:=.tup [.d (.agg [.int (rq (mulQ x y)).num,.int (rq (mulQ x y)).den]),.d (.bool (mulQ x y).2.2)]) ?_)
   exact ⟨rfl,rfl⟩
theorem specDivA:AFn 95 [.d (ratDV x),.d (ratDV y)] [] (fun r os=>r=tupQ (divQ x y)∧os=[]):=by
 have hT:divQ x y=if (vR x && vR y)=true then newRat (x.num*y.den) (x.den*y.num) else (0,0,false):=rfl
 refine afn_of (rv:=[.cell 4 43,.tmp 5]) tyT_ok Tryd.func95 rfl (by decide +kernel) Tryd.ntmps95 rfl (by simp) ?_
 repeat' (first | refine sq ?_ | refine stp ?_ | refine blk_o (by decide) ?_ | (apply cb;(focus (simp (disch:=(first | omega | (simp;omega))) only [go_sem,w64,ratDV];try exact rfl));refine cok ?_) | (refine rgT ?_;intro K hK) | (refine dA ?_;intro K hK) | (with_reducible refine hK _ ?_;clear hK K) | (refine stq ?_;simp (disch:=(first | omega | (simp;omega))) only [go_sem,w64,ratDV]) | refine as1 ?_ | fail)
 (first | refine callA (specValidRA x) ?_ | refine callD (specValidRA x) ?_ | refine callE (specValidRA x) ?_ | refine callF (specValidRA x) ?_ ?_)
 cases hx:vR x with
 | false =>
  rw [hx,if_neg (by simp)] at hT
  repeat' (first | refine sq ?_ | refine stp ?_ | refine blk_o (by decide) ?_ | (apply cb;(focus (simp (disch:=(first | omega | (simp;omega))) only [go_sem,w64,ratDV];try exact rfl));refine cok ?_) | (refine rgT ?_;intro K hK) | (refine dA ?_;intro K hK) | (with_reducible refine hK _ ?_;clear hK K) | (refine stq ?_;simp (disch:=(first | omega | (simp;omega))) only [go_sem,w64,ratDV]) | refine as1 ?_ | fail)
  (refine endA (r:=.tup [.d (.agg [.int 0,.int 0]),.d (.bool false)]) ?_)
  exact ⟨by rw [hT];rfl,rfl⟩
 | true =>
  repeat' (first | refine sq ?_ | refine stp ?_ | refine blk_o (by decide) ?_ | (apply cb;(focus (simp (disch:=(first | omega | (simp;omega))) only [go_sem,w64,ratDV];try exact rfl));refine cok ?_) | (refine rgT ?_;intro K hK) | (refine dA ?_;intro K hK) | (with_reducible refine hK _ ?_;clear hK K) | (refine stq ?_;simp (disch:=(first | omega | (simp;omega))) only [go_sem,w64,ratDV]) | refine as1 ?_ | fail)
  (first | refine callA (specValidRA y) ?_ | refine callD (specValidRA y) ?_ | refine callE (specValidRA y) ?_ | refine callF (specValidRA y) ?_ ?_)
  cases hy:vR y with
  | false =>
   rw [hx,hy,if_neg (by simp)] at hT
   repeat' (first | refine sq ?_ | refine stp ?_ | refine blk_o (by decide) ?_ | (apply cb;(focus (simp (disch:=(first | omega | (simp;omega))) only [go_sem,w64,ratDV];try exact rfl));refine cok ?_) | (refine rgT ?_;intro K hK) | (refine dA ?_;intro K hK) | (with_reducible refine hK _ ?_;clear hK K) | (refine stq ?_;simp (disch:=(first | omega | (simp;omega))) only [go_sem,w64,ratDV]) | refine as1 ?_ | fail)
   (refine endA (r:=.tup [.d (.agg [.int 0,.int 0]),.d (.bool false)]) ?_)
   exact ⟨by rw [hT];rfl,rfl⟩
  | true =>
   have hb:bothOK x.num x.den y.num y.den=true:=by show (vR x && vR y)=true;rw [hx,hy];rfl
   rw [hx,hy,Bool.true_and,if_pos rfl] at hT
   obtain ⟨o1,o2,o3,o4,o5⟩:=ops_bd (an:=x.num) (ad:=x.den) (bn:=y.num) (bd:=y.den) hb
   have w1:IntKind.i64.wrap (x.num*y.den)=x.num*y.den:=w64 (by omega)
   have w2:IntKind.i64.wrap (x.den*y.num)=x.den*y.num:=w64 (by omega)
   repeat' (first | refine sq ?_ | refine stp ?_ | refine blk_o (by decide) ?_ | (apply cb;(focus (simp (disch:=(first | omega | (simp;omega))) only [go_sem,w64,ratDV,w1,w2];try exact rfl));refine cok ?_) | (refine rgT ?_;intro K hK) | (refine dA ?_;intro K hK) | (with_reducible refine hK _ ?_;clear hK K) | (refine stq ?_;simp (disch:=(first | omega | (simp;omega))) only [go_sem,w64,ratDV,w1,w2]) | refine as1 ?_ | fail)
   (first | refine callA (specNewA (x.num*y.den) (x.den*y.num)) ?_ | refine callD (specNewA (x.num*y.den) (x.den*y.num)) ?_ | refine callE (specNewA (x.num*y.den) (x.den*y.num)) ?_ | refine callF (specNewA (x.num*y.den) (x.den*y.num)) ?_ ?_)
   rw [← hT]
   repeat' (first | refine sq ?_ | refine stp ?_ | refine blk_o (by decide) ?_ | (apply cb;(focus (simp (disch:=(first | omega | (simp;omega))) only [go_sem,w64,tupQ,ratDV];try exact rfl));refine cok ?_) | (refine rgT ?_;intro K hK) | (refine dA ?_;intro K hK) | (with_reducible refine hK _ ?_;clear hK K) | (refine stq ?_;simp (disch:=(first | omega | (simp;omega))) only [go_sem,w64,tupQ,ratDV]) | refine as1 ?_ | fail)
   (refine endA (r:=.tup [.d (.agg [.int (rq (divQ x y)).num,.int (rq (divQ x y)).den]),.d (.bool (divQ x y).2.2)]) ?_)
   exact ⟨rfl,rfl⟩
theorem implDivA:AFn 101 [.d (ratDV x),.d (ratDV y)] [] (fun r os=>r=tupQ (divQ x y)∧os=[]):=by
 have hT:divQ x y=if (vR x && vR y)=true then newRat (x.num*y.den) (x.den*y.num) else (0,0,false):=rfl
 refine afn_of (rv:=[.cell 4 43,.tmp 5]) tyT_ok Tryd.func101 rfl (by decide +kernel) Tryd.ntmps101 rfl (by simp) ?_
 repeat' (first | refine sq ?_ | refine stp ?_ | refine blk_o (by decide) ?_ | (apply cb;(focus (simp (disch:=(first | omega | (simp;omega))) only [go_sem,w64,ratDV];try exact rfl));refine cok ?_) | (refine rgT ?_;intro K hK) | (refine dA ?_;intro K hK) | (with_reducible refine hK _ ?_;clear hK K) | (refine stq ?_;simp (disch:=(first | omega | (simp;omega))) only [go_sem,w64,ratDV]) | refine as1 ?_ | fail)
 (first | refine callA (implBothA x y) ?_ | refine callD (implBothA x y) ?_ | refine callE (implBothA x y) ?_ | refine callF (implBothA x y) ?_ ?_)
 cases hb:(vR x && vR y) with
 | false =>
  rw [hb,if_neg (by decide)] at hT
  repeat' (first | refine sq ?_ | refine stp ?_ | refine blk_o (by decide) ?_ | (apply cb;(focus (simp (disch:=(first | omega | (simp;omega))) only [go_sem,w64,ratDV];try exact rfl));refine cok ?_) | (refine rgT ?_;intro K hK) | (refine dA ?_;intro K hK) | (with_reducible refine hK _ ?_;clear hK K) | (refine stq ?_;simp (disch:=(first | omega | (simp;omega))) only [go_sem,w64,ratDV]) | refine as1 ?_ | fail)
  (refine endA (r:=.tup [.d (.agg [.int 0,.int 0]),.d (.bool false)]) ?_)
  exact ⟨by rw [hT];rfl,rfl⟩
 | true =>
  rw [hb,if_pos rfl] at hT
  by_cases hz:y.num=0
  ·rw [newRat_no (.inl (by rw [hz,Int.mul_zero]))] at hT
   have z1:decide (y.num=0)=true:=decide_eq_true hz
   repeat' (first | refine sq ?_ | refine stp ?_ | refine blk_o (by decide) ?_ | (apply cb;(focus (simp (disch:=(first | omega | (simp;omega))) only [go_sem,w64,ratDV,z1];try exact rfl));refine cok ?_) | (refine rgT ?_;intro K hK) | (refine dA ?_;intro K hK) | (with_reducible refine hK _ ?_;clear hK K) | (refine stq ?_;simp (disch:=(first | omega | (simp;omega))) only [go_sem,w64,ratDV,z1]) | refine as1 ?_ | fail)
   (refine endA (r:=.tup [.d (.agg [.int 0,.int 0]),.d (.bool false)]) ?_)
   exact ⟨by rw [hT];rfl,rfl⟩
  have z1:decide (y.num=0)=false:=decide_eq_false hz
  obtain ⟨o1,o2,o3,o4,o5⟩:=ops_bd (an:=x.num) (ad:=x.den) (bn:=y.num) (bd:=y.den) hb
  have w1:IntKind.i64.wrap (x.num*y.den)=x.num*y.den:=w64 (by omega)
  have w2:IntKind.i64.wrap (x.den*y.num)=x.den*y.num:=w64 (by omega)
  repeat' (first | refine sq ?_ | refine stp ?_ | refine blk_o (by decide) ?_ | (apply cb;(focus (simp (disch:=(first | omega | (simp;omega))) only [go_sem,w64,ratDV,z1,w1,w2];try exact rfl));refine cok ?_) | (refine rgT ?_;intro K hK) | (refine dA ?_;intro K hK) | (with_reducible refine hK _ ?_;clear hK K) | (refine stq ?_;simp (disch:=(first | omega | (simp;omega))) only [go_sem,w64,ratDV,z1,w1,w2]) | refine as1 ?_ | fail)
  (first | refine callA (implNewA (x.num*y.den) (x.den*y.num)) ?_ | refine callD (implNewA (x.num*y.den) (x.den*y.num)) ?_ | refine callE (implNewA (x.num*y.den) (x.den*y.num)) ?_ | refine callF (implNewA (x.num*y.den) (x.den*y.num)) ?_ ?_)
  rw [← hT]
  repeat' (first | refine sq ?_ | refine stp ?_ | refine blk_o (by decide) ?_ | (apply cb;(focus (simp (disch:=(first | omega | (simp;omega))) only [go_sem,w64,tupQ,ratDV];try exact rfl));refine cok ?_) | (refine rgT ?_;intro K hK) | (refine dA ?_;intro K hK) | (with_reducible refine hK _ ?_;clear hK K) | (refine stq ?_;simp (disch:=(first | omega | (simp;omega))) only [go_sem,w64,tupQ,ratDV]) | refine as1 ?_ | fail)
  (refine endA (r:=.tup [.d (.agg [.int (rq (divQ x y)).num,.int (rq (divQ x y)).den]),.d (.bool (divQ x y).2.2)]) ?_)
  exact ⟨rfl,rfl⟩
end
theorem cmpQ_i64 (x y:RatD):I64 (cmpQ x y):=by
 unfold cmpQ cmpRat cmpI I64
 repeat' split
 all_goals omega
theorem implCmpA (x y:RatD):AFn 74 [.d (ratDV x),.d (ratDV y)] [] (fun r os=>r=.d (.int (cmpQ x y))∧os=[]):=by
 refine leaf_afn (fnOK (by kernel_rfl)) (fun _ _=>cvInt.2 ⟨rfl,cmpQ_i64 x y⟩) ?_
 rintro w G _ ⟨v,_,rfl,h1,u,_,rfl,h2,rfl⟩ hC
 obtain ⟨rfl,a1,a2⟩:=cv_ratS h1
 obtain ⟨rfl,b1,b2⟩:=cv_ratS h2
 exact implCompareRationals _ _ _ _ w a1 a2 b1 b2
theorem specCmpA (x y:RatD):AFn 70 [.d (ratDV x),.d (ratDV y)] [] (fun r os=>r=.d (.int (cmpQ x y))∧os=[]):=by
 refine leaf_afn (fnOK (by kernel_rfl)) (fun _ _=>cvInt.2 ⟨rfl,cmpQ_i64 x y⟩) ?_
 rintro w G _ ⟨v,_,rfl,h1,u,_,rfl,h2,rfl⟩ hC
 obtain ⟨rfl,a1,a2⟩:=cv_ratS h1
 obtain ⟨rfl,b1,b2⟩:=cv_ratS h2
 exact specCompareRationals _ _ _ _ w a1 a2 b1 b2
theorem addR_no {a b c d:Int} (h:ratOK c d=false):addR a b c d=(0,0,false):=by
 unfold addR bothOK
 rw [h];simp
theorem subQ_no {x y:RatD} (h:vR y=false):subQ x y=(0,0,false):=by
 unfold subQ subR
 exact addR_no (by rw [ratOK_neg];exact h)
theorem afn_learn {f:FuncId} {args:List AV} {os0:List (List AV)} {R:AV→List (List AV)→Prop} {φ:Prop} (hf:FnOK f) (h:∀ G w vs,CVs G w args vs→φ) (k:φ→AFn f args os0 R):AFn f args os0 R:=⟨hf,fun w G vs h1=>(k (h _ _ _ h1)).2 w G vs h1⟩
theorem subQ_neg (x y:RatD):addQ x ⟨0 - y.num,y.den⟩=subQ x y:=by
 unfold addQ subQ subR
 rw [Int.zero_sub]
theorem implSubA (x y:RatD):AFn 105 [.d (ratDV x),.d (ratDV y)] [] (fun r os=>r=tupQ (subQ x y)∧os=[]):=by
 refine afn_learn (φ:=I64 y.num) (fnOK (by kernel_rfl)) (fun G w vs h=>?_) (fun hI=>?_)
 ·obtain ⟨v,_,rfl,h1,u,_,rfl,h2,rfl⟩:=h
  exact (cv_ratS h2).2.1
 refine afn_of (rv:=[.cell 4 43,.tmp 5]) tyT_ok Tryd.func105 rfl (by decide +kernel) Tryd.ntmps105 rfl (by simp) ?_
 have key:∃ z,IntKind.i64.wrap (0 - y.num)=z∧addQ x ⟨z,y.den⟩=subQ x y:=by
  by_cases hy:-1000000000≤y.num∧y.num≤1000000000
  ·exact ⟨0 - y.num,w64 (by omega),subQ_neg x y⟩
  ·refine ⟨_,rfl,?_⟩
   rw [subQ_no (ratOK_n hy)]
   refine addR_no (ratOK_n ?_)
   show ¬ (-1000000000≤IntKind.i64.wrap (0 - y.num)∧IntKind.i64.wrap (0 - y.num)≤1000000000)
   unfold I64 at hI
   by_cases hm:y.num = -9223372036854775808
   ·rw [hm];decide
   ·rw [w64 (by omega)];omega
 obtain ⟨z,hz1,hz2⟩:=key
 repeat' (first | refine sq ?_ | refine stp ?_ | refine blk_o (by decide) ?_ | (apply cb;(focus (simp (disch:=(first | omega | (simp;omega))) only [go_sem,w64,ratDV,hz1];try exact rfl));refine cok ?_) | (refine rgT ?_;intro K hK) | (refine dA ?_;intro K hK) | (with_reducible refine hK _ ?_;clear hK K) | (refine stq ?_;simp (disch:=(first | omega | (simp;omega))) only [go_sem,w64,ratDV,hz1]) | refine as1 ?_ | fail)
 (first | refine callA (implAddA x ⟨z,y.den⟩) ?_ | refine callD (implAddA x ⟨z,y.den⟩) ?_ | refine callE (implAddA x ⟨z,y.den⟩) ?_ | refine callF (implAddA x ⟨z,y.den⟩) ?_ ?_)
 rw [hz2]
 repeat' (first | refine sq ?_ | refine stp ?_ | refine blk_o (by decide) ?_ | (apply cb;(focus (simp (disch:=(first | omega | (simp;omega))) only [go_sem,w64,ratDV,tupQ];try exact rfl));refine cok ?_) | (refine rgT ?_;intro K hK) | (refine dA ?_;intro K hK) | (with_reducible refine hK _ ?_;clear hK K) | (refine stq ?_;simp (disch:=(first | omega | (simp;omega))) only [go_sem,w64,ratDV,tupQ]) | refine as1 ?_ | fail)
 (refine endA (r:=.tup [.d (.agg [.int (rq (subQ x y)).num,.int (rq (subQ x y)).den]),.d (.bool (subQ x y).2.2)]) ?_)
 exact ⟨rfl,rfl⟩
theorem specSubA (x y:RatD):AFn 104 [.d (ratDV x),.d (ratDV y)] [] (fun r os=>r=tupQ (subQ x y)∧os=[]):=by
 refine afn_of (rv:=[.cell 4 43,.tmp 5]) tyT_ok Tryd.func104 rfl (by decide +kernel) Tryd.ntmps104 rfl (by simp) ?_
 repeat' (first | refine sq ?_ | refine stp ?_ | refine blk_o (by decide) ?_ | (apply cb;(focus (simp (disch:=(first | omega | (simp;omega))) only [go_sem,w64,ratDV];try exact rfl));refine cok ?_) | (refine rgT ?_;intro K hK) | (refine dA ?_;intro K hK) | (with_reducible refine hK _ ?_;clear hK K) | (refine stq ?_;simp (disch:=(first | omega | (simp;omega))) only [go_sem,w64,ratDV]) | refine as1 ?_ | fail)
 (first | refine callA (specValidRA y) ?_ | refine callD (specValidRA y) ?_ | refine callE (specValidRA y) ?_ | refine callF (specValidRA y) ?_ ?_)
 cases hy:vR y with
 | true =>
  have hb:=ratOK_b hy
  repeat' (first | refine sq ?_ | refine stp ?_ | refine blk_o (by decide) ?_ | (apply cb;(focus (simp (disch:=(first | omega | (simp;omega))) only [go_sem,w64,ratDV];try exact rfl));refine cok ?_) | (refine rgT ?_;intro K hK) | (refine dA ?_;intro K hK) | (with_reducible refine hK _ ?_;clear hK K) | (refine stq ?_;simp (disch:=(first | omega | (simp;omega))) only [go_sem,w64,ratDV]) | refine as1 ?_ | fail)
  (first | refine callA (specAddA x ⟨0 - y.num,y.den⟩) ?_ | refine callD (specAddA x ⟨0 - y.num,y.den⟩) ?_ | refine callE (specAddA x ⟨0 - y.num,y.den⟩) ?_ | refine callF (specAddA x ⟨0 - y.num,y.den⟩) ?_ ?_)
  rw [subQ_neg]
  repeat' (first | refine sq ?_ | refine stp ?_ | refine blk_o (by decide) ?_ | (apply cb;(focus (simp (disch:=(first | omega | (simp;omega))) only [go_sem,w64,ratDV,tupQ];try exact rfl));refine cok ?_) | (refine rgT ?_;intro K hK) | (refine dA ?_;intro K hK) | (with_reducible refine hK _ ?_;clear hK K) | (refine stq ?_;simp (disch:=(first | omega | (simp;omega))) only [go_sem,w64,ratDV,tupQ]) | refine as1 ?_ | fail)
  (refine endA (r:=.tup [.d (.agg [.int (rq (subQ x y)).num,.int (rq (subQ x y)).den]),.d (.bool (subQ x y).2.2)]) ?_)
  exact ⟨rfl,rfl⟩
 | false =>
  repeat' (first | refine sq ?_ | refine stp ?_ | refine blk_o (by decide) ?_ | (apply cb;(focus (simp (disch:=(first | omega | (simp;omega))) only [go_sem,w64,ratDV];try exact rfl));refine cok ?_) | (refine rgT ?_;intro K hK) | (refine dA ?_;intro K hK) | (with_reducible refine hK _ ?_;clear hK K) | (refine stq ?_;simp (disch:=(first | omega | (simp;omega))) only [go_sem,w64,ratDV]) | refine as1 ?_ | fail)
  (refine endA (r:=.tup [.d (.agg [.int 0,.int 0]),.d (.bool false)]) ?_)
  exact ⟨by rw [subQ_no hy];rfl,rfl⟩
end Go.Proofs.YteiaofkgbdlpoaaDoor
