/- Lemmas for the proof of FnExactMaximize, part 21 of 56: no condition of their own. -/
import Derived.Test.YtpbclpopoodklaaR1
import Derived.Test.YtpbclpopoodklaaQ1
import Derived.Test.YtpbclpopoodklaaCell
import Derived.Deep.DeepCutAuto
import Derived.Deep.CutBlock
namespace Go.Proofs.Ytpbclpopoodklaa
set_option linter.unusedSimpArgs false
set_option linter.unusedVariables false
open Go.RowKit
theorem max_abs (x:Int):max x (-x)=(x.natAbs:Int):=by omega
set_option maxHeartbeats 800000 in
theorem implAbs (x:Int) (w:World) (h:-4000000000000000000≤x∧x≤4000000000000000000):Calls Try.prog 72 #[.int .i64 x] w (Gives w (.int .i64 (x.natAbs:Nat))):=by
  have hw:IntKind.i64.wrap (-x) = -x:=IntWalk.i64_in _ (by omega)
  have HM:=hid (max_abs x)
  go_enter Try.func72,Try.ntmps72
  go_wp2
  all_goals
    go_ret
    exact ⟨ret_int (by omega),by first | exact ⟨0,rfl⟩ | exact ⟨_,rfl⟩ | exact ⟨_,dd⟩⟩
def ratOK (n d:Int):Bool:=decide (1≤d∧d≤1000000000) && (decide (-1000000000≤n∧n≤1000000000) && decide (Nat.gcd n.natAbs d.toNat=1))
theorem ratOK_d {n d:Int} (h:¬ (1≤d∧d≤1000000000)):ratOK n d=false:=by simp [ratOK,h]
theorem ratOK_n {n d:Int} (h:¬ (-1000000000≤n∧n≤1000000000)):ratOK n d=false:=by simp [ratOK,h]
theorem ratOK_g {n d:Int} (h1:1≤d∧d≤1000000000) (h2:-1000000000≤n∧n≤1000000000) {g:Nat} (hg:Nat.gcd n.natAbs d.toNat=g):ratOK n d=decide (g=1):=by subst hg;simp [ratOK,h1,h2]
theorem ratOK_out {n d:Int} (h:ratOK n d=true):(1≤d∧d≤1000000000)∧(-1000000000≤n∧n≤1000000000)∧Nat.gcd n.natAbs d.toNat=1:=by
  simp only [ratOK,Bool.and_eq_true,decide_eq_true_eq] at h;exact ⟨h.1,h.2.1,h.2.2⟩
theorem ratOK_neg (n d:Int):ratOK (-n) d=ratOK n d:=by
  have h:decide (-1000000000≤-n∧-n≤1000000000)=decide (-1000000000≤n∧n≤1000000000):=by rw [Bool.eq_iff_iff];simp;omega
  simp only [ratOK,Int.natAbs_neg,h]
abbrev ratV (n d:Int):Value:=.agg #[.int .i64 n,.int .i64 d]
set_option maxHeartbeats 1600000 in
theorem implValidRat (n d:Int) (w:World) (hn:I64 n) (hd:I64 d) :
    Calls Try.prog 58 #[ratV n d] w (Leaves w (.bool (ratOK n d))):=by
  obtain ⟨W,hW⟩:∃ W,W=w.alloc (.cells #[.int .i64 n,.int .i64 d] 39):=⟨_,rfl⟩
  have hBW:Below w.heap.size w W:=by rw [hW];exact (by repeat (first | with_reducible assumption | with_reducible exact Below.refl _ _ | with_reducible refine below_drewN ?_ _ | with_reducible refine Below.al ?_ (by first | with_reducible exact Nat.le_refl _ | omega | (simp;done) | (simp;omega) | exact Nat.le_refl _) _ | with_reducible refine Below.setCell ?_ (by first | with_reducible exact Nat.le_refl _ | omega | (simp;done) | (simp;omega) | exact Nat.le_refl _) _ | assumption | exact Below.refl _ _ | refine below_drewN ?_ _ | refine Below.al ?_ (by first | with_reducible exact Nat.le_refl _ | omega | (simp;done) | (simp;omega) | exact Nat.le_refl _) _ | refine Below.setCell ?_ (by first | with_reducible exact Nat.le_refl _ | omega | (simp;done) | (simp;omega) | exact Nat.le_refl _) _))
  have hz:w.heap.size<W.heap.size:=by rw [hW];simp
  have c0:∀ x:Later W.heap.size W,x.w.cell? ⟨w.heap.size,0,none⟩=some (.int .i64 n):=fun x=>x.cell (by rw [hW];simp) hz
  have c1:∀ x:Later W.heap.size W,x.w.cell? ⟨w.heap.size,1,none⟩=some (.int .i64 d):=fun x=>x.cell (by rw [hW];simp) hz
  have HW:=hid (And.intro hW hBW);clear hW hBW
  have HI:=hid (And.intro hn hd);clear hn hd
  by_cases h1:1≤d∧d≤1000000000
  · have HD:=hid (fun x:Later W.heap.size W=>later_gives x (Nat.le_refl _) (by have:=implWithin d 1 1000000000 x.w;rwa [show decide (1≤d∧d≤1000000000)=true from by simpa using h1] at this))
    by_cases h2:-1000000000≤n∧n≤1000000000
    · have HN:=hid (fun x:Later W.heap.size W=>later_gives x (Nat.le_refl _) (by have:=implWithin n (-1000000000) 1000000000 x.w;rwa [show decide (-1000000000≤n∧n≤1000000000)=true from by simpa using h2] at this))
      have HA:=hid (fun x:Later W.heap.size W=>later_gives x (Nat.le_refl _) (implAbs n x.w (by omega)))
      have HG:=hid (fun x:Later W.heap.size W=>later_gives x (Nat.le_refl _) (by have:=implGcd n.natAbs d.toNat x.w (by omega) (by omega);rwa [show ((d.toNat:Nat):Int)=d from by omega] at this))
      obtain ⟨g,hg⟩:∃ g,Nat.gcd n.natAbs d.toNat=g:=⟨_,rfl⟩
      have hok:=ratOK_g h1 h2 hg
      rw [hg] at HG
      have HK:=hid hok;clear hok hg h1 h2
      by_cases h3:g=1
      · have HQ:=hid (show decide (g=1)=true by simpa using h3)
        have e3:((g:Int) == 1)=true:=by simp [h3]
        have HH3:=hid h3;clear h3
        go_enter Try.func58,Try.ntmps58
        go_upto_region 1 with fail
        rw [← HW.out.1]
        refine wp_region_later (B:=W.heap.size) (w0:=W) (by kernel_rfl) (by kernel_rfl) (Below.refl _ _) ?_
        repeat (any_goals (first | go_big_quiet_step (((first | (go_at_call 41;with_reducible first | exact HD.out _ | exact HN.out _) | (go_at_call 72;exact HA.out _) | (go_at_call 71;exact HG.out _)))) | quiet_step (((first | (go_at_call 41;with_reducible first | exact HD.out _ | exact HN.out _) | (go_at_call 72;exact HA.out _) | (go_at_call 71;exact HG.out _))))))
        refine wpQuiet_nil ?_
        intro _ hw'
        obtain ⟨nq,hw''⟩:=hw'
        subst hw''
        have HNQ:=hid nq.be
        generalize nq.w=wq at *
        go_wp2_with fail
        go_ret
        exact ⟨by rw [HK.out,HQ.out];rfl,HW.out.2.trans (HNQ.out.mono (by omega))⟩
      · have HQ:=hid (show decide (g=1)=false by simpa using h3)
        have e3:((g:Int) == 1)=false:=by simp;omega
        have HH3:=hid h3;clear h3
        go_enter Try.func58,Try.ntmps58
        go_upto_region 1 with fail
        rw [← HW.out.1]
        refine wp_region_later (B:=W.heap.size) (w0:=W) (by kernel_rfl) (by kernel_rfl) (Below.refl _ _) ?_
        repeat (any_goals (first | go_big_quiet_step (((first | (go_at_call 41;with_reducible first | exact HD.out _ | exact HN.out _) | (go_at_call 72;exact HA.out _) | (go_at_call 71;exact HG.out _)))) | quiet_step (((first | (go_at_call 41;with_reducible first | exact HD.out _ | exact HN.out _) | (go_at_call 72;exact HA.out _) | (go_at_call 71;exact HG.out _))))))
        refine wpQuiet_nil ?_
        intro _ hw'
        obtain ⟨nq,hw''⟩:=hw'
        subst hw''
        have HNQ:=hid nq.be
        generalize nq.w=wq at *
        go_wp2_with fail
        go_ret
        exact ⟨by rw [HK.out,HQ.out];rfl,HW.out.2.trans (HNQ.out.mono (by omega))⟩
    · have HN:=hid (fun x:Later W.heap.size W=>later_gives x (Nat.le_refl _) (by have:=implWithin n (-1000000000) 1000000000 x.w;rwa [show decide (-1000000000≤n∧n≤1000000000)=false from by simpa using h2] at this))
      have HK:=hid (ratOK_n (d:=d) h2);clear h1 h2
      go_enter Try.func58,Try.ntmps58
      go_upto_region 1 with fail
      rw [← HW.out.1]
      refine wp_region_later (B:=W.heap.size) (w0:=W) (by kernel_rfl) (by kernel_rfl) (Below.refl _ _) ?_
      repeat (any_goals (first | go_big_quiet_step (((go_at_call 41;with_reducible first | exact HD.out _ | exact HN.out _))) | quiet_step (((go_at_call 41;with_reducible first | exact HD.out _ | exact HN.out _)))))
      refine wpQuiet_nil ?_
      intro _ hw'
      obtain ⟨nq,hw''⟩:=hw'
      subst hw''
      have HNQ:=hid nq.be
      generalize nq.w=wq at *
      go_wp2_with fail
      go_ret
      exact ⟨by rw [HK.out];rfl,HW.out.2.trans (HNQ.out.mono (by omega))⟩
  · have HD:=hid (fun x:Later W.heap.size W=>later_gives x (Nat.le_refl _) (by have:=implWithin d 1 1000000000 x.w;rwa [show decide (1≤d∧d≤1000000000)=false from by simpa using h1] at this))
    have HK:=hid (ratOK_d (n:=n) h1);clear h1
    go_enter Try.func58,Try.ntmps58
    go_upto_region 1 with fail
    rw [← HW.out.1]
    refine wp_region_later (B:=W.heap.size) (w0:=W) (by kernel_rfl) (by kernel_rfl) (Below.refl _ _) ?_
    repeat (any_goals (first | go_big_quiet_step (((go_at_call 41;with_reducible exact HD.out _))) | quiet_step (((go_at_call 41;with_reducible exact HD.out _)))))
    refine wpQuiet_nil ?_
    intro _ hw'
    obtain ⟨nq,hw''⟩:=hw'
    subst hw''
    have HNQ:=hid nq.be
    generalize nq.w=wq at *
    go_wp2_with fail
    go_ret
    exact ⟨by rw [HK.out];rfl,HW.out.2.trans (HNQ.out.mono (by omega))⟩
set_option maxHeartbeats 1600000 in
theorem specValidRat (n d:Int) (w:World) (hn:I64 n) (hd:I64 d) :
    Calls Try.prog 54 #[ratV n d] w (Leaves w (.bool (ratOK n d))):=by
  have HI:=hid (And.intro hn hd);clear hn hd
  by_cases h1:1≤d∧d≤1000000000
  · have k1:=hid (show decide (1≤d∧d≤1000000000)=true by simpa using h1)
    by_cases h2:-1000000000≤n∧n≤1000000000
    · have k2:=hid (show decide (-1000000000≤n∧n≤1000000000)=true by simpa using h2)
      obtain ⟨g,hg⟩:∃ g,Nat.gcd n.natAbs d.toNat=g:=⟨_,rfl⟩
      have HG:=hid (fun (w':World) (x:Int) (hx:x=(n.natAbs:Int))=>show Calls Try.prog 68 #[.int .i64 x,.int .i64 d] w' (Gives w' (.int .i64 (g:Nat))) by
        have:=specGcd n.natAbs d.toNat w' (by omega) (by omega)
        rwa [show ((d.toNat:Nat):Int)=d from by omega,← hx,hg] at this)
      have HK:=hid (ratOK_g h1 h2 hg);clear hg
      have hwr:IntKind.i64.wrap (-n) = -n:=IntWalk.i64_in _ (by omega)
      have HH:=hid (And.intro h1 h2);clear h1
      by_cases h3:g=1
      · have HQ:=hid (show decide (g=1)=true by simpa using h3)
        have e3:((g:Int) == 1)=true:=by simp [h3]
        have HH3:=hid h3;clear h3
        go_enter Try.func54,Try.ntmps54
        go_wp2_with fail
        refine (specIn d 1 1000000000 _).mono ?_
        rintro e w1 ⟨rfl,m1,rfl⟩
        rw [k1.out]
        go_wp2_with fail
        refine (specIn n (-1000000000) 1000000000 _).mono ?_
        rintro e w1 ⟨rfl,m2,rfl⟩
        rw [k2.out]
        go_wp2_with fail
        all_goals
          refine (HG.out _ _ (by omega)).mono ?_
          rintro e w1 ⟨rfl,m3,rfl⟩
          go_wp2_with fail
          go_ret
          exact ⟨by rw [HK.out,HQ.out];rfl,(by repeat (first | with_reducible assumption | with_reducible exact Below.refl _ _ | with_reducible refine below_drewN ?_ _ | with_reducible refine below_drew1 ?_ | with_reducible refine Below.al ?_ (by first | with_reducible exact Nat.le_refl _ | omega | (simp;done) | (simp;omega) | exact Nat.le_refl _) _ | with_reducible refine Below.setCell ?_ (by first | with_reducible exact Nat.le_refl _ | omega | (simp;done) | (simp;omega) | exact Nat.le_refl _) _ | assumption | exact Below.refl _ _ | refine below_drewN ?_ _ | refine below_drew1 ?_ | refine Below.al ?_ (by first | with_reducible exact Nat.le_refl _ | omega | (simp;done) | (simp;omega) | exact Nat.le_refl _) _ | refine Below.setCell ?_ (by first | with_reducible exact Nat.le_refl _ | omega | (simp;done) | (simp;omega) | exact Nat.le_refl _) _))⟩
      · have HQ:=hid (show decide (g=1)=false by simpa using h3)
        have e3:((g:Int) == 1)=false:=by simp;omega
        have HH3:=hid h3;clear h3
        go_enter Try.func54,Try.ntmps54
        go_wp2_with fail
        refine (specIn d 1 1000000000 _).mono ?_
        rintro e w1 ⟨rfl,m1,rfl⟩
        rw [k1.out]
        go_wp2_with fail
        refine (specIn n (-1000000000) 1000000000 _).mono ?_
        rintro e w1 ⟨rfl,m2,rfl⟩
        rw [k2.out]
        go_wp2_with fail
        all_goals
          refine (HG.out _ _ (by omega)).mono ?_
          rintro e w1 ⟨rfl,m3,rfl⟩
          go_wp2_with fail
          go_ret
          exact ⟨by rw [HK.out,HQ.out];rfl,(by repeat (first | with_reducible assumption | with_reducible exact Below.refl _ _ | with_reducible refine below_drewN ?_ _ | with_reducible refine below_drew1 ?_ | with_reducible refine Below.al ?_ (by first | with_reducible exact Nat.le_refl _ | omega | (simp;done) | (simp;omega) | exact Nat.le_refl _) _ | with_reducible refine Below.setCell ?_ (by first | with_reducible exact Nat.le_refl _ | omega | (simp;done) | (simp;omega) | exact Nat.le_refl _) _ | assumption | exact Below.refl _ _ | refine below_drewN ?_ _ | refine below_drew1 ?_ | refine Below.al ?_ (by first | with_reducible exact Nat.le_refl _ | omega | (simp;done) | (simp;omega) | exact Nat.le_refl _) _ | refine Below.setCell ?_ (by first | with_reducible exact Nat.le_refl _ | omega | (simp;done) | (simp;omega) | exact Nat.le_refl _) _))⟩
    · have k2:=hid (show decide (-1000000000≤n∧n≤1000000000)=false by simpa using h2)
      have HK:=hid (ratOK_n (d:=d) h2);clear h1 h2
      go_enter Try.func54,Try.ntmps54
      go_wp2_with fail
      refine (specIn d 1 1000000000 _).mono ?_
      rintro e w1 ⟨rfl,m1,rfl⟩
      rw [k1.out]
      go_wp2_with fail
      refine (specIn n (-1000000000) 1000000000 _).mono ?_
      rintro e w1 ⟨rfl,m2,rfl⟩
      rw [k2.out]
      go_wp2_with fail
      go_ret
      exact ⟨by rw [HK.out];rfl,(by repeat (first | with_reducible assumption | with_reducible exact Below.refl _ _ | with_reducible refine below_drewN ?_ _ | with_reducible refine below_drew1 ?_ | with_reducible refine Below.al ?_ (by first | with_reducible exact Nat.le_refl _ | omega | (simp;done) | (simp;omega) | exact Nat.le_refl _) _ | with_reducible refine Below.setCell ?_ (by first | with_reducible exact Nat.le_refl _ | omega | (simp;done) | (simp;omega) | exact Nat.le_refl _) _ | assumption | exact Below.refl _ _ | refine below_drewN ?_ _ | refine below_drew1 ?_ | refine Below.al ?_ (by first | with_reducible exact Nat.le_refl _ | omega | (simp;done) | (simp;omega) | exact Nat.le_refl _) _ | refine Below.setCell ?_ (by first | with_reducible exact Nat.le_refl _ | omega | (simp;done) | (simp;omega) | exact Nat.le_refl _) _))⟩
  · have k1:=hid (show decide (1≤d∧d≤1000000000)=false by simpa using h1)
    have HK:=hid (ratOK_d (n:=n) h1);clear h1
    go_enter Try.func54,Try.ntmps54
    go_wp2_with fail
    refine (specIn d 1 1000000000 _).mono ?_
    rintro e w1 ⟨rfl,m1,rfl⟩
    rw [k1.out]
    go_wp2_with fail
    go_ret
    exact ⟨by rw [HK.out];rfl,(by repeat (first | with_reducible assumption | with_reducible exact Below.refl _ _ | with_reducible refine below_drewN ?_ _ | with_reducible refine below_drew1 ?_ | with_reducible refine Below.al ?_ (by first | with_reducible exact Nat.le_refl _ | omega | (simp;done) | (simp;omega) | exact Nat.le_refl _) _ | with_reducible refine Below.setCell ?_ (by first | with_reducible exact Nat.le_refl _ | omega | (simp;done) | (simp;omega) | exact Nat.le_refl _) _ | assumption | exact Below.refl _ _ | refine below_drewN ?_ _ | refine below_drew1 ?_ | refine Below.al ?_ (by first | with_reducible exact Nat.le_refl _ | omega | (simp;done) | (simp;omega) | exact Nat.le_refl _) _ | refine Below.setCell ?_ (by first | with_reducible exact Nat.le_refl _ | omega | (simp;done) | (simp;omega) | exact Nat.le_refl _) _))⟩
end Go.Proofs.Ytpbclpopoodklaa
