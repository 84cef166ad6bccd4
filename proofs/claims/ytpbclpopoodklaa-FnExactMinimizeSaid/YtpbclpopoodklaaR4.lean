/- Lemmas for the proof of FnExactMaximize, part 23 of 56: no condition of their own. -/
import Derived.Test.YtpbclpopoodklaaR3
import Derived.Test.YtpbclpopoodklaaQ2
namespace Go.Proofs.Ytpbclpopoodklaa
set_option linter.unusedSimpArgs false
set_option linter.unusedVariables false
open Go.RowKit
theorem mul_bd {x y:Int} (h1:-1000000000≤x∧x≤1000000000) (h2:-1000000000≤y∧y≤1000000000):-1000000000000000000≤x*y∧x*y≤1000000000000000000:=by
  have h:(x*y).natAbs≤1000000000*1000000000:=by rw [Int.natAbs_mul];exact Nat.mul_le_mul (by omega) (by omega)
  omega
def bothOK (an ad bn bd:Int):Bool:=ratOK an ad && ratOK bn bd
def addR (an ad bn bd:Int):Int×Int×Bool:=if bothOK an ad bn bd=true then newRat (an*bd+bn*ad) (ad*bd) else (0,0,false)
def mulR (an ad bn bd:Int):Int×Int×Bool:=if bothOK an ad bn bd=true then newRat (an*bn) (ad*bd) else (0,0,false)
def divR (an ad bn bd:Int):Int×Int×Bool:=if bothOK an ad bn bd=true then newRat (an*bd) (ad*bn) else (0,0,false)
def subR (an ad bn bd:Int):Int×Int×Bool:=addR an ad (-bn) bd
def cmpRat (an ad bn bd:Int):Int:=if bothOK an ad bn bd=true then cmpI (an*bd) (bn*ad) else 0
theorem ratOK_b {n d:Int} (h:ratOK n d=true):(-1000000000≤n∧n≤1000000000)∧(-1000000000≤d∧d≤1000000000)∧0<d:=by
  obtain ⟨h1,h2,_⟩:=ratOK_out h
  omega
theorem bothOK_out {an ad bn bd:Int} (h:bothOK an ad bn bd=true):ratOK an ad=true∧ratOK bn bd=true:=by simpa [bothOK] using h
theorem ops_bd {an ad bn bd:Int} (h:bothOK an ad bn bd=true):(-1000000000000000000≤an*bd∧an*bd≤1000000000000000000)∧(-1000000000000000000≤bn*ad∧bn*ad≤1000000000000000000)∧(-1000000000000000000≤ad*bd∧ad*bd≤1000000000000000000)∧(-1000000000000000000≤an*bn∧an*bn≤1000000000000000000)∧(-1000000000000000000≤ad*bn∧ad*bn≤1000000000000000000):=by
  obtain ⟨h1,h2⟩:=bothOK_out h
  have k1:=ratOK_b h1;have k2:=ratOK_b h2
  exact ⟨mul_bd k1.1 k2.2.1,mul_bd k2.1 k1.2.1,mul_bd k1.2.1 k2.2.1,mul_bd k1.1 k2.1,mul_bd k1.2.1 k2.1⟩
set_option maxHeartbeats 1600000 in
theorem implBothValid (an ad bn bd:Int) (w:World) (h1:I64 an) (h2:I64 ad) (h3:I64 bn) (h4:I64 bd) :
    Calls Try.prog 66 #[ratV an ad,ratV bn bd] w (Leaves w (.bool (bothOK an ad bn bd))):=by
  have HI:=hid (And.intro h1 (And.intro h2 (And.intro h3 h4)));clear h1 h2 h3 h4
  obtain ⟨k,hk⟩:∃ k,ratOK an ad=k:=⟨_,rfl⟩
  have hb:bothOK an ad bn bd=(k && ratOK bn bd):=by unfold bothOK;rw [hk]
  have HK:=hid (And.intro hk hb);clear hk hb
  cases k with
  | false =>
    go_enter Try.func66,Try.ntmps66
    go_wp2_with fail
    refine (implValidRat an ad _ HI.out.1 HI.out.2.1).mono ?_
    rintro e w1 ⟨rfl,hb1⟩
    rw [HK.out.1]
    have hb2:Below w.heap.size w w1:=Below.trans (by repeat (first | with_reducible assumption | with_reducible exact Below.refl _ _ | with_reducible refine below_drewN ?_ _ | with_reducible refine below_drew1 ?_ | with_reducible refine Below.al ?_ (by first | with_reducible exact Nat.le_refl _ | omega | (simp;done) | (simp;omega) | exact Nat.le_refl _) _ | with_reducible refine Below.setCell ?_ (by first | with_reducible exact Nat.le_refl _ | omega | (simp;done) | (simp;omega) | exact Nat.le_refl _) _ | assumption | exact Below.refl _ _ | refine below_drewN ?_ _ | refine below_drew1 ?_ | refine Below.al ?_ (by first | with_reducible exact Nat.le_refl _ | omega | (simp;done) | (simp;omega) | exact Nat.le_refl _) _ | refine Below.setCell ?_ (by first | with_reducible exact Nat.le_refl _ | omega | (simp;done) | (simp;omega) | exact Nat.le_refl _) _)) (hb1.mono (by first | with_reducible exact Nat.le_refl _ | omega | (simp;done) | (simp;omega) | exact Nat.le_refl _))
    have HB:=hid hb2;clear hb1 hb2
    go_wp2_with fail
    go_ret
    exact ⟨by rw [HK.out.2];rfl,HB.out⟩
  | true =>
    go_enter Try.func66,Try.ntmps66
    go_wp2_with fail
    refine (implValidRat an ad _ HI.out.1 HI.out.2.1).mono ?_
    rintro e w1 ⟨rfl,hb1⟩
    rw [HK.out.1]
    have hz:=hb1.size
    simp at hz
    have hb2:Below w.heap.size w w1:=Below.trans (by repeat (first | with_reducible assumption | with_reducible exact Below.refl _ _ | with_reducible refine below_drewN ?_ _ | with_reducible refine below_drew1 ?_ | with_reducible refine Below.al ?_ (by first | with_reducible exact Nat.le_refl _ | omega | (simp;done) | (simp;omega) | exact Nat.le_refl _) _ | with_reducible refine Below.setCell ?_ (by first | with_reducible exact Nat.le_refl _ | omega | (simp;done) | (simp;omega) | exact Nat.le_refl _) _ | assumption | exact Below.refl _ _ | refine below_drewN ?_ _ | refine below_drew1 ?_ | refine Below.al ?_ (by first | with_reducible exact Nat.le_refl _ | omega | (simp;done) | (simp;omega) | exact Nat.le_refl _) _ | refine Below.setCell ?_ (by first | with_reducible exact Nat.le_refl _ | omega | (simp;done) | (simp;omega) | exact Nat.le_refl _) _)) (hb1.mono (by first | with_reducible exact Nat.le_refl _ | omega | (simp;done) | (simp;omega) | exact Nat.le_refl _))
    have q0:w1.cell? ⟨w.heap.size+1,0,none⟩=some (.int .i64 bn):=(by rw [(bcell hb1).1 _ _ (by first | omega | (simp;done) | (simp;omega))];first | with_reducible assumption | (go_simp;done) | assumption | (simp [World.cell?];done))
    have q1:w1.cell? ⟨w.heap.size+1,1,none⟩=some (.int .i64 bd):=(by rw [(bcell hb1).1 _ _ (by first | omega | (simp;done) | (simp;omega))];first | with_reducible assumption | (go_simp;done) | assumption | (simp [World.cell?];done))
    have HB:=hid hb2;clear hb1 hb2
    go_wp2_with fail
    refine (implValidRat bn bd _ HI.out.2.2.1 HI.out.2.2.2).mono ?_
    rintro e w2 ⟨rfl,hb1⟩
    have hb2:Below w.heap.size w w2:=HB.out.trans (hb1.mono (by omega))
    have HB2:=hid hb2;clear hb1 hb2
    obtain ⟨k2,hk2⟩:∃ k,ratOK bn bd=k:=⟨_,rfl⟩
    rw [hk2] at HK ⊢
    have HK2:=hid hk2;clear hk2
    go_wp2_with fail
    go_ret
    exact ⟨by rw [HK.out.2];rfl,HB2.out⟩
theorem cmpRat_no {an ad bn bd:Int} (h:bothOK an ad bn bd=false):cmpRat an ad bn bd=0:=by unfold cmpRat;rw [if_neg (by rw [h];decide)]
theorem cmpRat_yes {an ad bn bd:Int} (h:bothOK an ad bn bd=true):cmpRat an ad bn bd=cmpI (an*bd) (bn*ad):=by unfold cmpRat;rw [if_pos h]
theorem cmpI_lt {x y:Int} (h:x<y):cmpI x y = -1:=by unfold cmpI;rw [if_pos h]
theorem cmpI_gt {x y:Int} (h:y<x):cmpI x y=1:=by unfold cmpI;rw [if_neg (by omega),if_pos h]
theorem cmpI_eq {x y:Int} (h:¬ x<y) (h':¬ y<x):cmpI x y=0:=by unfold cmpI;rw [if_neg h,if_neg h']
set_option maxHeartbeats 1600000 in
theorem implCompareRationals (an ad bn bd:Int) (w:World) (h1:I64 an) (h2:I64 ad) (h3:I64 bn) (h4:I64 bd) :
    Calls Try.prog 53 #[ratV an ad,ratV bn bd] w (Leaves w (.int .i64 (cmpRat an ad bn bd))):=by
  have HI:=hid (And.intro h1 (And.intro h2 (And.intro h3 h4)));clear h1 h2 h3 h4
  obtain ⟨k,hk⟩:∃ k,bothOK an ad bn bd=k:=⟨_,rfl⟩
  cases k with
  | false =>
    have HF:=hid (cmpRat_no hk);have HK:=hid hk;clear hk
    go_enter Try.func53,Try.ntmps53
    go_wp2_with fail
    refine (implBothValid an ad bn bd _ HI.out.1 HI.out.2.1 HI.out.2.2.1 HI.out.2.2.2).mono ?_
    rintro e w1 ⟨rfl,hb1⟩
    rw [HK.out]
    have hb2:Below w.heap.size w w1:=Below.trans (by repeat (first | with_reducible assumption | with_reducible exact Below.refl _ _ | with_reducible refine below_drewN ?_ _ | with_reducible refine below_drew1 ?_ | with_reducible refine Below.al ?_ (by first | with_reducible exact Nat.le_refl _ | omega | (simp;done) | (simp;omega) | exact Nat.le_refl _) _ | with_reducible refine Below.setCell ?_ (by first | with_reducible exact Nat.le_refl _ | omega | (simp;done) | (simp;omega) | exact Nat.le_refl _) _ | assumption | exact Below.refl _ _ | refine below_drewN ?_ _ | refine below_drew1 ?_ | refine Below.al ?_ (by first | with_reducible exact Nat.le_refl _ | omega | (simp;done) | (simp;omega) | exact Nat.le_refl _) _ | refine Below.setCell ?_ (by first | with_reducible exact Nat.le_refl _ | omega | (simp;done) | (simp;omega) | exact Nat.le_refl _) _)) (hb1.mono (by first | with_reducible exact Nat.le_refl _ | omega | (simp;done) | (simp;omega) | exact Nat.le_refl _))
    have HB:=hid hb2;clear hb1 hb2
    go_wp2_with fail
    go_ret
    exact ⟨by rw [HF.out];rfl,HB.out⟩
  | true =>
    have hO:=ops_bd hk
    have wr0:IntKind.i64.wrap (an*bd)=an*bd:=IntWalk.i64_in _ (by omega)
    have wr1:IntKind.i64.wrap (bn*ad)=bn*ad:=IntWalk.i64_in _ (by omega)
    have HF:=hid (cmpRat_yes hk);have HK:=hid hk;clear hk hO
    go_enter Try.func53,Try.ntmps53
    go_wp2_with fail
    refine (implBothValid an ad bn bd _ HI.out.1 HI.out.2.1 HI.out.2.2.1 HI.out.2.2.2).mono ?_
    rintro e w1 ⟨rfl,hb1⟩
    rw [HK.out]
    have hz:=hb1.size
    simp at hz
    have q0:w1.cell? ⟨w.heap.size,0,none⟩=some (.int .i64 an):=(by rw [(bcell hb1).1 _ _ (by first | omega | (simp;done) | (simp;omega))];first | with_reducible assumption | (go_simp;done) | assumption | (simp [World.cell?];done))
    have q1:w1.cell? ⟨w.heap.size,1,none⟩=some (.int .i64 ad):=(by rw [(bcell hb1).1 _ _ (by first | omega | (simp;done) | (simp;omega))];first | with_reducible assumption | (go_simp;done) | assumption | (simp [World.cell?];done))
    have q2:w1.cell? ⟨w.heap.size+1,0,none⟩=some (.int .i64 bn):=(by rw [(bcell hb1).1 _ _ (by first | omega | (simp;done) | (simp;omega))];first | with_reducible assumption | (go_simp;done) | assumption | (simp [World.cell?];done))
    have q3:w1.cell? ⟨w.heap.size+1,1,none⟩=some (.int .i64 bd):=(by rw [(bcell hb1).1 _ _ (by first | omega | (simp;done) | (simp;omega))];first | with_reducible assumption | (go_simp;done) | assumption | (simp [World.cell?];done))
    have hb2:Below w.heap.size w w1:=Below.trans (by repeat (first | with_reducible assumption | with_reducible exact Below.refl _ _ | with_reducible refine below_drewN ?_ _ | with_reducible refine below_drew1 ?_ | with_reducible refine Below.al ?_ (by first | with_reducible exact Nat.le_refl _ | omega | (simp;done) | (simp;omega) | exact Nat.le_refl _) _ | with_reducible refine Below.setCell ?_ (by first | with_reducible exact Nat.le_refl _ | omega | (simp;done) | (simp;omega) | exact Nat.le_refl _) _ | assumption | exact Below.refl _ _ | refine below_drewN ?_ _ | refine below_drew1 ?_ | refine Below.al ?_ (by first | with_reducible exact Nat.le_refl _ | omega | (simp;done) | (simp;omega) | exact Nat.le_refl _) _ | refine Below.setCell ?_ (by first | with_reducible exact Nat.le_refl _ | omega | (simp;done) | (simp;omega) | exact Nat.le_refl _) _)) (hb1.mono (by first | with_reducible exact Nat.le_refl _ | omega | (simp;done) | (simp;omega) | exact Nat.le_refl _))
    have HB:=hid hb2;clear hb1 hb2
    go_wp2_with fail
    refine (implCmp (an*bd) (bn*ad) _).mono ?_
    rintro e w2 ⟨rfl,m,rfl⟩
    go_wp2_with fail
    go_ret
    exact ⟨by rw [HF.out];rfl,by have hq:=HB.out;exact (by repeat (first | with_reducible assumption | with_reducible exact Below.refl _ _ | with_reducible refine below_drewN ?_ _ | with_reducible refine below_drew1 ?_ | with_reducible refine Below.al ?_ (by first | with_reducible exact Nat.le_refl _ | omega | (simp;done) | (simp;omega) | exact Nat.le_refl _) _ | with_reducible refine Below.setCell ?_ (by first | with_reducible exact Nat.le_refl _ | omega | (simp;done) | (simp;omega) | exact Nat.le_refl _) _ | assumption | exact Below.refl _ _ | refine below_drewN ?_ _ | refine below_drew1 ?_ | refine Below.al ?_ (by first | with_reducible exact Nat.le_refl _ | omega | (simp;done) | (simp;omega) | exact Nat.le_refl _) _ | refine Below.setCell ?_ (by first | with_reducible exact Nat.le_refl _ | omega | (simp;done) | (simp;omega) | exact Nat.le_refl _) _))⟩
set_option maxHeartbeats 3200000 in
theorem specCompareRationals (an ad bn bd:Int) (w:World) (h1:I64 an) (h2:I64 ad) (h3:I64 bn) (h4:I64 bd) :
    Calls Try.prog 51 #[ratV an ad,ratV bn bd] w (Leaves w (.int .i64 (cmpRat an ad bn bd))):=by
  have HI:=hid (And.intro h1 (And.intro h2 (And.intro h3 h4)));clear h1 h2 h3 h4
  obtain ⟨ka,hka⟩:∃ k,ratOK an ad=k:=⟨_,rfl⟩
  obtain ⟨kb,hkb⟩:∃ k,ratOK bn bd=k:=⟨_,rfl⟩
  have hk:bothOK an ad bn bd=(ka && kb):=by unfold bothOK;rw [hka,hkb]
  have HA:=hid hka;have HB:=hid hkb
  clear hka hkb
  cases ka with
  | false =>
    have HF:=hid (cmpRat_no (an:=an) (ad:=ad) (bn:=bn) (bd:=bd) (by rw [hk];rfl));clear hk
    go_enter Try.func51,Try.ntmps51
    go_wp2_with fail
    refine (specValidRat an ad _ HI.out.1 HI.out.2.1).mono ?_
    rintro e w1 ⟨rfl,hb1⟩
    rw [HA.out]
    have hb2:Below w.heap.size w w1:=Below.trans (by repeat (first | with_reducible assumption | with_reducible exact Below.refl _ _ | with_reducible refine below_drewN ?_ _ | with_reducible refine below_drew1 ?_ | with_reducible refine Below.al ?_ (by first | with_reducible exact Nat.le_refl _ | omega | (simp;done) | (simp;omega) | exact Nat.le_refl _) _ | with_reducible refine Below.setCell ?_ (by first | with_reducible exact Nat.le_refl _ | omega | (simp;done) | (simp;omega) | exact Nat.le_refl _) _ | assumption | exact Below.refl _ _ | refine below_drewN ?_ _ | refine below_drew1 ?_ | refine Below.al ?_ (by first | with_reducible exact Nat.le_refl _ | omega | (simp;done) | (simp;omega) | exact Nat.le_refl _) _ | refine Below.setCell ?_ (by first | with_reducible exact Nat.le_refl _ | omega | (simp;done) | (simp;omega) | exact Nat.le_refl _) _)) (hb1.mono (by first | with_reducible exact Nat.le_refl _ | omega | (simp;done) | (simp;omega) | exact Nat.le_refl _))
    have HBB:=hid hb2;clear hb1 hb2
    go_wp2_with fail
    go_ret
    exact ⟨by rw [HF.out];rfl,HBB.out⟩
  | true =>
    cases kb with
    | false =>
      have HF:=hid (cmpRat_no (an:=an) (ad:=ad) (bn:=bn) (bd:=bd) (by rw [hk];rfl));clear hk
      go_enter Try.func51,Try.ntmps51
      go_wp2_with fail
      refine (specValidRat an ad _ HI.out.1 HI.out.2.1).mono ?_
      rintro e w1 ⟨rfl,hb1⟩
      rw [HA.out]
      have hz:=hb1.size
      simp at hz
      have q2:w1.cell? ⟨w.heap.size+1,0,none⟩=some (.int .i64 bn):=(by rw [(bcell hb1).1 _ _ (by first | omega | (simp;done) | (simp;omega))];first | with_reducible assumption | (go_simp;done) | assumption | (simp [World.cell?];done))
      have q3:w1.cell? ⟨w.heap.size+1,1,none⟩=some (.int .i64 bd):=(by rw [(bcell hb1).1 _ _ (by first | omega | (simp;done) | (simp;omega))];first | with_reducible assumption | (go_simp;done) | assumption | (simp [World.cell?];done))
      have hb2:Below w.heap.size w w1:=Below.trans (by repeat (first | with_reducible assumption | with_reducible exact Below.refl _ _ | with_reducible refine below_drewN ?_ _ | with_reducible refine below_drew1 ?_ | with_reducible refine Below.al ?_ (by first | with_reducible exact Nat.le_refl _ | omega | (simp;done) | (simp;omega) | exact Nat.le_refl _) _ | with_reducible refine Below.setCell ?_ (by first | with_reducible exact Nat.le_refl _ | omega | (simp;done) | (simp;omega) | exact Nat.le_refl _) _ | assumption | exact Below.refl _ _ | refine below_drewN ?_ _ | refine below_drew1 ?_ | refine Below.al ?_ (by first | with_reducible exact Nat.le_refl _ | omega | (simp;done) | (simp;omega) | exact Nat.le_refl _) _ | refine Below.setCell ?_ (by first | with_reducible exact Nat.le_refl _ | omega | (simp;done) | (simp;omega) | exact Nat.le_refl _) _)) (hb1.mono (by first | with_reducible exact Nat.le_refl _ | omega | (simp;done) | (simp;omega) | exact Nat.le_refl _))
      have HBB:=hid hb2;clear hb1 hb2
      go_wp2_with fail
      refine (specValidRat bn bd _ HI.out.2.2.1 HI.out.2.2.2).mono ?_
      rintro e w2 ⟨rfl,hb1⟩
      rw [HB.out]
      have hb2:Below w.heap.size w w2:=HBB.out.trans (hb1.mono (by omega))
      have HBC:=hid hb2;clear hb1 hb2
      go_wp2_with fail
      go_ret
      exact ⟨by rw [HF.out];rfl,HBC.out⟩
    | true =>
      have hkt:bothOK an ad bn bd=true:=by rw [hk];rfl
      have hO:=ops_bd hkt
      have wr0:IntKind.i64.wrap (an*bd)=an*bd:=IntWalk.i64_in _ (by omega)
      have wr1:IntKind.i64.wrap (bn*ad)=bn*ad:=IntWalk.i64_in _ (by omega)
      have HF:=hid (cmpRat_yes hkt);clear hk hkt hO
      obtain ⟨x,hx⟩:∃ x,an*bd=x:=⟨_,rfl⟩
      obtain ⟨y,hy⟩:∃ x,bn*ad=x:=⟨_,rfl⟩
      rw [hx,hy] at HF
      have HX:=hid (And.intro hx hy)
      rw [hx] at wr0;rw [hy] at wr1
      have wr2:IntKind.i64.wrap (an*bd)=x:=by rw [hx];exact wr0
      have wr3:IntKind.i64.wrap (bn*ad)=y:=by rw [hy];exact wr1
      clear hx hy wr0 wr1
      go_enter Try.func51,Try.ntmps51
      go_wp2_with fail
      refine (specValidRat an ad _ HI.out.1 HI.out.2.1).mono ?_
      rintro e w1 ⟨rfl,hb1⟩
      rw [HA.out]
      have hz:=hb1.size
      simp at hz
      have q0:w1.cell? ⟨w.heap.size,0,none⟩=some (.int .i64 an):=(by rw [(bcell hb1).1 _ _ (by first | omega | (simp;done) | (simp;omega))];first | with_reducible assumption | (go_simp;done) | assumption | (simp [World.cell?];done))
      have q1:w1.cell? ⟨w.heap.size,1,none⟩=some (.int .i64 ad):=(by rw [(bcell hb1).1 _ _ (by first | omega | (simp;done) | (simp;omega))];first | with_reducible assumption | (go_simp;done) | assumption | (simp [World.cell?];done))
      have q2:w1.cell? ⟨w.heap.size+1,0,none⟩=some (.int .i64 bn):=(by rw [(bcell hb1).1 _ _ (by first | omega | (simp;done) | (simp;omega))];first | with_reducible assumption | (go_simp;done) | assumption | (simp [World.cell?];done))
      have q3:w1.cell? ⟨w.heap.size+1,1,none⟩=some (.int .i64 bd):=(by rw [(bcell hb1).1 _ _ (by first | omega | (simp;done) | (simp;omega))];first | with_reducible assumption | (go_simp;done) | assumption | (simp [World.cell?];done))
      have hb2:Below w.heap.size w w1:=Below.trans (by repeat (first | with_reducible assumption | with_reducible exact Below.refl _ _ | with_reducible refine below_drewN ?_ _ | with_reducible refine below_drew1 ?_ | with_reducible refine Below.al ?_ (by first | with_reducible exact Nat.le_refl _ | omega | (simp;done) | (simp;omega) | exact Nat.le_refl _) _ | with_reducible refine Below.setCell ?_ (by first | with_reducible exact Nat.le_refl _ | omega | (simp;done) | (simp;omega) | exact Nat.le_refl _) _ | assumption | exact Below.refl _ _ | refine below_drewN ?_ _ | refine below_drew1 ?_ | refine Below.al ?_ (by first | with_reducible exact Nat.le_refl _ | omega | (simp;done) | (simp;omega) | exact Nat.le_refl _) _ | refine Below.setCell ?_ (by first | with_reducible exact Nat.le_refl _ | omega | (simp;done) | (simp;omega) | exact Nat.le_refl _) _)) (hb1.mono (by first | with_reducible exact Nat.le_refl _ | omega | (simp;done) | (simp;omega) | exact Nat.le_refl _))
      have HBB:=hid hb2;clear hb1 hb2
      go_wp2_with fail
      refine (specValidRat bn bd _ HI.out.2.2.1 HI.out.2.2.2).mono ?_
      rintro e w2 ⟨rfl,hb1⟩
      rw [HB.out]
      have hz2:=hb1.size
      have r0:w2.cell? ⟨w.heap.size,0,none⟩=some (.int .i64 an):=(by rw [(bcell hb1).1 _ _ (by first | omega | (simp;done) | (simp;omega))];first | with_reducible assumption | (go_simp;done) | assumption | (simp [World.cell?];done))
      have r1:w2.cell? ⟨w.heap.size,1,none⟩=some (.int .i64 ad):=(by rw [(bcell hb1).1 _ _ (by first | omega | (simp;done) | (simp;omega))];first | with_reducible assumption | (go_simp;done) | assumption | (simp [World.cell?];done))
      have r2:w2.cell? ⟨w.heap.size+1,0,none⟩=some (.int .i64 bn):=(by rw [(bcell hb1).1 _ _ (by first | omega | (simp;done) | (simp;omega))];first | with_reducible assumption | (go_simp;done) | assumption | (simp [World.cell?];done))
      have r3:w2.cell? ⟨w.heap.size+1,1,none⟩=some (.int .i64 bd):=(by rw [(bcell hb1).1 _ _ (by first | omega | (simp;done) | (simp;omega))];first | with_reducible assumption | (go_simp;done) | assumption | (simp [World.cell?];done))
      have hb2:Below w.heap.size w w2:=HBB.out.trans (hb1.mono (by omega))
      have HBC:=hid hb2;clear hb1 hb2 q0 q1 q2 q3
      by_cases hxy:x<y
      · have HR:=hid (cmpI_lt hxy)
        go_wp2_with fail
        go_ret
        exact ⟨by rw [HF.out,HR.out];rfl,HBC.out⟩
      · by_cases hyx:y<x
        · have HR:=hid (cmpI_gt hyx)
          go_wp2_with fail
          go_ret
          exact ⟨by rw [HF.out,HR.out];rfl,HBC.out⟩
        · have HR:=hid (cmpI_eq hxy hyx)
          go_wp2_with fail
          go_ret
          exact ⟨by rw [HF.out,HR.out];rfl,HBC.out⟩
end Go.Proofs.Ytpbclpopoodklaa
