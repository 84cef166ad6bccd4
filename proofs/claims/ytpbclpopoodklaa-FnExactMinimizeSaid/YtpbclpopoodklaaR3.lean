/- Lemmas for the proof of FnExactMaximize, part 22 of 56: no condition of their own. -/
import Derived.Test.YtpbclpopoodklaaR2
import Derived.RegionTactic
import Derived.ChangeAlike
namespace Go.Proofs.Ytpbclpopoodklaa
set_option linter.unusedSimpArgs false
set_option linter.unusedVariables false
open Go.RowKit
def newRat (n d:Int):Int×Int×Bool :=
  if d=0∨¬ (-4000000000000000000≤n∧n≤4000000000000000000)∨¬ (-4000000000000000000≤d∧d≤4000000000000000000) then (0,0,false)
  else
    let n':=if d<0 then -n else n
    let d':=if d<0 then -d else d
    let g:Int:=(Nat.gcd n'.natAbs d'.toNat:Nat)
    if ratOK (n'.tdiv g) (d'.tdiv g)=true then (n'.tdiv g,d'.tdiv g,true) else (0,0,false)
abbrev ratB (r:Int×Int×Bool):Value:=.tuple #[.agg #[.int .i64 r.1,.int .i64 r.2.1],.bool r.2.2]
theorem newRat_no {n d:Int} (h:d=0∨¬ (-4000000000000000000≤n∧n≤4000000000000000000)∨¬ (-4000000000000000000≤d∧d≤4000000000000000000)):newRat n d=(0,0,false):=by unfold newRat;exact if_pos h
theorem newRat_pos {n d:Int} {g:Nat} (h0:0<d) (h1:d≤4000000000000000000) (h2:-4000000000000000000≤n∧n≤4000000000000000000) (hg:Nat.gcd n.natAbs d.toNat=g) :
    newRat n d=if ratOK (n.tdiv g) (d.tdiv g)=true then (n.tdiv g,d.tdiv g,true) else (0,0,false):=by
  subst hg
  have hn:¬ (d=0∨¬ (-4000000000000000000≤n∧n≤4000000000000000000)∨¬ (-4000000000000000000≤d∧d≤4000000000000000000)):=by omega
  have h3:¬ d<0:=by omega
  simp only [newRat,if_neg hn,if_neg h3]
theorem newRat_neg {n d:Int} {g:Nat} (h0:d<0) (h1:-4000000000000000000≤d) (h2:-4000000000000000000≤n∧n≤4000000000000000000) (hg:Nat.gcd (-n).natAbs (-d).toNat=g) :
    newRat n d=if ratOK ((-n).tdiv g) ((-d).tdiv g)=true then ((-n).tdiv g,(-d).tdiv g,true) else (0,0,false):=by
  subst hg
  have hn:¬ (d=0∨¬ (-4000000000000000000≤n∧n≤4000000000000000000)∨¬ (-4000000000000000000≤d∧d≤4000000000000000000)):=by omega
  simp only [newRat,if_neg hn,if_pos h0]
theorem tdiv_i64 {n:Int} {g:Nat} (h:-4000000000000000000≤n∧n≤4000000000000000000):-4000000000000000000≤n.tdiv g∧n.tdiv g≤4000000000000000000:=by
  have:=Int.natAbs_tdiv_le_natAbs n g
  omega
set_option maxHeartbeats 3200000 in
theorem implNewRat (n d:Int) (w:World) (hn:I64 n) (hd:I64 d) :
    Calls Try.prog 74 #[.int .i64 n,.int .i64 d] w (Leaves w (ratB (newRat n d))):=by
  have HI:=hid (And.intro hn hd);clear hn hd
  have hwm:IntKind.i64.wrap (-4000000000000000000) = -4000000000000000000:=by decide
  by_cases h0:d=0
  · have HF:=hid (newRat_no (n:=n) (d:=d) (.inl h0))
    subst h0
    go_enter Try.func74,Try.ntmps74
    go_wp2_with fail
    refine bodyPost_ret (v:=ratB (0,0,false)) (by simp [results,Try.results74,go_sem]) rfl ⟨by rw [HF.out],(by repeat (first | with_reducible assumption | with_reducible exact Below.refl _ _ | with_reducible refine below_drewN ?_ _ | with_reducible refine below_drew1 ?_ | with_reducible refine Below.al ?_ (by first | with_reducible exact Nat.le_refl _ | omega | (simp;done) | (simp;omega) | exact Nat.le_refl _) _ | with_reducible refine Below.setCell ?_ (by first | with_reducible exact Nat.le_refl _ | omega | (simp;done) | (simp;omega) | exact Nat.le_refl _) _ | assumption | exact Below.refl _ _ | refine below_drewN ?_ _ | refine below_drew1 ?_ | refine Below.al ?_ (by first | with_reducible exact Nat.le_refl _ | omega | (simp;done) | (simp;omega) | exact Nat.le_refl _) _ | refine Below.setCell ?_ (by first | with_reducible exact Nat.le_refl _ | omega | (simp;done) | (simp;omega) | exact Nat.le_refl _) _))⟩
  · have d0:(d == 0)=false:=by simpa using h0
    by_cases h1:-4000000000000000000≤n∧n≤4000000000000000000
    · have k1:=hid (show decide (-4000000000000000000≤n∧n≤4000000000000000000)=true by simpa using h1)
      by_cases h2:-4000000000000000000≤d∧d≤4000000000000000000
      · have k2:=hid (show decide (-4000000000000000000≤d∧d≤4000000000000000000)=true by simpa using h2)
        by_cases h3:d<0
        · have HD3:=hid h3
          obtain ⟨g,hg⟩:∃ g,Nat.gcd (-n).natAbs (-d).toNat=g:=⟨_,rfl⟩
          have HG:=hid (fun (w':World) (x:Int) (hx:x=((-n).natAbs:Nat))=>show Calls Try.prog 71 #[.int .i64 x,.int .i64 (-d)] w' (Gives w' (.int .i64 (g:Nat))) by
            have:=implGcd (-n).natAbs (-d).toNat w' (by omega) (by omega)
            rwa [show (((-d).toNat:Nat):Int) = -d from by omega,← hx,hg] at this)
          have hg0:0<g:=by rw [← hg];exact Nat.gcd_pos_of_pos_right _ (by omega)
          have hgi:((g:Int) == 0)=false:=by simp;omega
          have HR:=hid (newRat_neg (by omega) h2.1 h1 hg);clear hg
          have hq1:=tdiv_i64 (n:=-n) (g:=g) (by omega)
          have hq2:=tdiv_i64 (n:=-d) (g:=g) (by omega)
          obtain ⟨a,ha⟩:∃ a,(-n).tdiv g=a:=⟨_,rfl⟩
          obtain ⟨b,hb⟩:∃ b,(-d).tdiv g=b:=⟨_,rfl⟩
          rw [ha] at hq1;rw [hb] at hq2;rw [ha,hb] at HR
          have hwn:IntKind.i64.wrap (-n) = -n:=IntWalk.i64_in _ (by omega)
          have hwd:IntKind.i64.wrap (-d) = -d:=IntWalk.i64_in _ (by omega)
          have HA:=hid (And.intro ha hb)
          have HI2:Hid (I64 a∧I64 b):=hid ⟨by unfold I64;omega,by unfold I64;omega⟩
          obtain ⟨ok,hok⟩:∃ ok,ratOK a b=ok:=⟨_,rfl⟩
          have HOK:=hid hok;clear hok
          cases ok with
          | true =>
            go_enter Try.func74,Try.ntmps74
            go_wp2_with fail
            refine (implWithin n (-4000000000000000000) 4000000000000000000 _).mono ?_
            rintro e w1 ⟨rfl,m1,rfl⟩
            rw [k1.out]
            go_wp2_with fail
            refine (implWithin d (-4000000000000000000) 4000000000000000000 _).mono ?_
            rintro e w1 ⟨rfl,m2,rfl⟩
            rw [k2.out]
            go_wp2_with fail
            refine (implAbs (-n) _ (by omega)).mono ?_
            rintro e w1 ⟨rfl,m3,rfl⟩
            go_wp2_with fail
            all_goals
              refine (HG.out _ _ (by omega)).mono ?_
              rintro e w1 ⟨rfl,m4,rfl⟩
              go_wp2_with fail
              go_region
              go_wp2_with fail
              refine (implValidRat a b _ HI2.out.1 HI2.out.2).mono ?_
              rintro e w1 ⟨rfl,hb1⟩
              rw [HOK.out]
              have hz:=hb1.size
              simp at hz
              have hb2:Below w.heap.size w w1:=Below.trans (by repeat (first | with_reducible assumption | with_reducible exact Below.refl _ _ | with_reducible refine below_drewN ?_ _ | with_reducible refine below_drew1 ?_ | with_reducible refine Below.al ?_ (by first | with_reducible exact Nat.le_refl _ | omega | (simp;done) | (simp;omega) | exact Nat.le_refl _) _ | with_reducible refine Below.setCell ?_ (by first | with_reducible exact Nat.le_refl _ | omega | (simp;done) | (simp;omega) | exact Nat.le_refl _) _ | assumption | exact Below.refl _ _ | refine below_drewN ?_ _ | refine below_drew1 ?_ | refine Below.al ?_ (by first | with_reducible exact Nat.le_refl _ | omega | (simp;done) | (simp;omega) | exact Nat.le_refl _) _ | refine Below.setCell ?_ (by first | with_reducible exact Nat.le_refl _ | omega | (simp;done) | (simp;omega) | exact Nat.le_refl _) _)) (hb1.mono (by first | with_reducible exact Nat.le_refl _ | omega | (simp;done) | (simp;omega) | exact Nat.le_refl _))
              have q0:w1.cell? ⟨w.heap.size,0,none⟩=some (.int .i64 0):=(by rw [(bcell hb1).1 _ _ (by first | omega | (simp;done) | (simp;omega))];first | with_reducible assumption | (go_simp;done) | assumption | (simp [World.cell?];done))
              have f0:w1.frozen? ⟨w.heap.size,0,none⟩=false:=(by rw [(bcell hb1).2 _ _ (by first | omega | (simp;done) | (simp;omega))];first | with_reducible assumption | (go_simp;done) | assumption | (simp [World.frozen?];done))
              have r0:w1.cell? ⟨w.heap.size+1,0,none⟩=some (.int .i64 a):=(by rw [(bcell hb1).1 _ _ (by first | omega | (simp;done) | (simp;omega))];first | with_reducible assumption | (go_simp;done) | assumption | (simp [World.cell?];done))
              have q1:w1.cell? ⟨w.heap.size,1,none⟩=some (.int .i64 0):=(by rw [(bcell hb1).1 _ _ (by first | omega | (simp;done) | (simp;omega))];first | with_reducible assumption | (go_simp;done) | assumption | (simp [World.cell?];done))
              have f1:w1.frozen? ⟨w.heap.size,1,none⟩=false:=(by rw [(bcell hb1).2 _ _ (by first | omega | (simp;done) | (simp;omega))];first | with_reducible assumption | (go_simp;done) | assumption | (simp [World.frozen?];done))
              have r1:w1.cell? ⟨w.heap.size+1,1,none⟩=some (.int .i64 b):=(by rw [(bcell hb1).1 _ _ (by first | omega | (simp;done) | (simp;omega))];first | with_reducible assumption | (go_simp;done) | assumption | (simp [World.cell?];done))
              have HB:=hid (And.intro hb1 hb2);clear hb1 hb2
              go_wp2_with fail
              refine bodyPost_ret (v:=ratB (a,b,true)) ?_ rfl ⟨by rw [HR.out,HOK.out];rfl,?_⟩
              · simp [results,Try.results74,go_sem,q0,q1]
              · have hb2:=HB.out.2
                exact (by repeat (first | with_reducible assumption | with_reducible exact Below.refl _ _ | with_reducible refine below_drewN ?_ _ | with_reducible refine below_drew1 ?_ | with_reducible refine Below.al ?_ (by first | with_reducible exact Nat.le_refl _ | omega | (simp;done) | (simp;omega) | exact Nat.le_refl _) _ | with_reducible refine Below.setCell ?_ (by first | with_reducible exact Nat.le_refl _ | omega | (simp;done) | (simp;omega) | exact Nat.le_refl _) _ | assumption | exact Below.refl _ _ | refine below_drewN ?_ _ | refine below_drew1 ?_ | refine Below.al ?_ (by first | with_reducible exact Nat.le_refl _ | omega | (simp;done) | (simp;omega) | exact Nat.le_refl _) _ | refine Below.setCell ?_ (by first | with_reducible exact Nat.le_refl _ | omega | (simp;done) | (simp;omega) | exact Nat.le_refl _) _))
          | false =>
            go_enter Try.func74,Try.ntmps74
            go_wp2_with fail
            refine (implWithin n (-4000000000000000000) 4000000000000000000 _).mono ?_
            rintro e w1 ⟨rfl,m1,rfl⟩
            rw [k1.out]
            go_wp2_with fail
            refine (implWithin d (-4000000000000000000) 4000000000000000000 _).mono ?_
            rintro e w1 ⟨rfl,m2,rfl⟩
            rw [k2.out]
            go_wp2_with fail
            refine (implAbs (-n) _ (by omega)).mono ?_
            rintro e w1 ⟨rfl,m3,rfl⟩
            go_wp2_with fail
            all_goals
              refine (HG.out _ _ (by omega)).mono ?_
              rintro e w1 ⟨rfl,m4,rfl⟩
              go_wp2_with fail
              go_region
              go_wp2_with fail
              refine (implValidRat a b _ HI2.out.1 HI2.out.2).mono ?_
              rintro e w1 ⟨rfl,hb1⟩
              rw [HOK.out]
              have hz:=hb1.size
              simp at hz
              have hb2:Below w.heap.size w w1:=Below.trans (by repeat (first | with_reducible assumption | with_reducible exact Below.refl _ _ | with_reducible refine below_drewN ?_ _ | with_reducible refine below_drew1 ?_ | with_reducible refine Below.al ?_ (by first | with_reducible exact Nat.le_refl _ | omega | (simp;done) | (simp;omega) | exact Nat.le_refl _) _ | with_reducible refine Below.setCell ?_ (by first | with_reducible exact Nat.le_refl _ | omega | (simp;done) | (simp;omega) | exact Nat.le_refl _) _ | assumption | exact Below.refl _ _ | refine below_drewN ?_ _ | refine below_drew1 ?_ | refine Below.al ?_ (by first | with_reducible exact Nat.le_refl _ | omega | (simp;done) | (simp;omega) | exact Nat.le_refl _) _ | refine Below.setCell ?_ (by first | with_reducible exact Nat.le_refl _ | omega | (simp;done) | (simp;omega) | exact Nat.le_refl _) _)) (hb1.mono (by first | with_reducible exact Nat.le_refl _ | omega | (simp;done) | (simp;omega) | exact Nat.le_refl _))
              have q0:w1.cell? ⟨w.heap.size,0,none⟩=some (.int .i64 0):=(by rw [(bcell hb1).1 _ _ (by first | omega | (simp;done) | (simp;omega))];first | with_reducible assumption | (go_simp;done) | assumption | (simp [World.cell?];done))
              have f0:w1.frozen? ⟨w.heap.size,0,none⟩=false:=(by rw [(bcell hb1).2 _ _ (by first | omega | (simp;done) | (simp;omega))];first | with_reducible assumption | (go_simp;done) | assumption | (simp [World.frozen?];done))
              have r0:w1.cell? ⟨w.heap.size+1,0,none⟩=some (.int .i64 a):=(by rw [(bcell hb1).1 _ _ (by first | omega | (simp;done) | (simp;omega))];first | with_reducible assumption | (go_simp;done) | assumption | (simp [World.cell?];done))
              have q1:w1.cell? ⟨w.heap.size,1,none⟩=some (.int .i64 0):=(by rw [(bcell hb1).1 _ _ (by first | omega | (simp;done) | (simp;omega))];first | with_reducible assumption | (go_simp;done) | assumption | (simp [World.cell?];done))
              have f1:w1.frozen? ⟨w.heap.size,1,none⟩=false:=(by rw [(bcell hb1).2 _ _ (by first | omega | (simp;done) | (simp;omega))];first | with_reducible assumption | (go_simp;done) | assumption | (simp [World.frozen?];done))
              have r1:w1.cell? ⟨w.heap.size+1,1,none⟩=some (.int .i64 b):=(by rw [(bcell hb1).1 _ _ (by first | omega | (simp;done) | (simp;omega))];first | with_reducible assumption | (go_simp;done) | assumption | (simp [World.cell?];done))
              have HB:=hid (And.intro hb1 hb2);clear hb1 hb2
              go_wp2_with fail
              refine bodyPost_ret (v:=ratB (0,0,false)) ?_ rfl ⟨by rw [HR.out,HOK.out];rfl,?_⟩
              · simp [results,Try.results74,go_sem,q0,q1]
              · have hb2:=HB.out.2
                exact (by repeat (first | with_reducible assumption | with_reducible exact Below.refl _ _ | with_reducible refine below_drewN ?_ _ | with_reducible refine below_drew1 ?_ | with_reducible refine Below.al ?_ (by first | with_reducible exact Nat.le_refl _ | omega | (simp;done) | (simp;omega) | exact Nat.le_refl _) _ | with_reducible refine Below.setCell ?_ (by first | with_reducible exact Nat.le_refl _ | omega | (simp;done) | (simp;omega) | exact Nat.le_refl _) _ | assumption | exact Below.refl _ _ | refine below_drewN ?_ _ | refine below_drew1 ?_ | refine Below.al ?_ (by first | with_reducible exact Nat.le_refl _ | omega | (simp;done) | (simp;omega) | exact Nat.le_refl _) _ | refine Below.setCell ?_ (by first | with_reducible exact Nat.le_refl _ | omega | (simp;done) | (simp;omega) | exact Nat.le_refl _) _))
        · have HD3:=hid h3
          obtain ⟨g,hg⟩:∃ g,Nat.gcd (n).natAbs (d).toNat=g:=⟨_,rfl⟩
          have HG:=hid (fun (w':World) (x:Int) (hx:x=((n).natAbs:Nat))=>show Calls Try.prog 71 #[.int .i64 x,.int .i64 (d)] w' (Gives w' (.int .i64 (g:Nat))) by
            have:=implGcd (n).natAbs (d).toNat w' (by omega) (by omega)
            rwa [show (((d).toNat:Nat):Int)=d from by omega,← hx,hg] at this)
          have hg0:0<g:=by rw [← hg];exact Nat.gcd_pos_of_pos_right _ (by omega)
          have hgi:((g:Int) == 0)=false:=by simp;omega
          have HR:=hid (newRat_pos (by omega) h2.2 h1 hg);clear hg
          have hq1:=tdiv_i64 (n:=n) (g:=g) (by omega)
          have hq2:=tdiv_i64 (n:=d) (g:=g) (by omega)
          obtain ⟨a,ha⟩:∃ a,(n).tdiv g=a:=⟨_,rfl⟩
          obtain ⟨b,hb⟩:∃ b,(d).tdiv g=b:=⟨_,rfl⟩
          rw [ha] at hq1;rw [hb] at hq2;rw [ha,hb] at HR
          have HA:=hid (And.intro ha hb)
          have HI2:Hid (I64 a∧I64 b):=hid ⟨by unfold I64;omega,by unfold I64;omega⟩
          obtain ⟨ok,hok⟩:∃ ok,ratOK a b=ok:=⟨_,rfl⟩
          have HOK:=hid hok;clear hok
          cases ok with
          | true =>
            go_enter Try.func74,Try.ntmps74
            go_wp2_with fail
            refine (implWithin n (-4000000000000000000) 4000000000000000000 _).mono ?_
            rintro e w1 ⟨rfl,m1,rfl⟩
            rw [k1.out]
            go_wp2_with fail
            refine (implWithin d (-4000000000000000000) 4000000000000000000 _).mono ?_
            rintro e w1 ⟨rfl,m2,rfl⟩
            rw [k2.out]
            go_wp2_with fail
            refine (implAbs (n) _ (by omega)).mono ?_
            rintro e w1 ⟨rfl,m3,rfl⟩
            go_wp2_with fail
            all_goals
              refine (HG.out _ _ (by omega)).mono ?_
              rintro e w1 ⟨rfl,m4,rfl⟩
              go_wp2_with fail
              go_region
              go_wp2_with fail
              refine (implValidRat a b _ HI2.out.1 HI2.out.2).mono ?_
              rintro e w1 ⟨rfl,hb1⟩
              rw [HOK.out]
              have hz:=hb1.size
              simp at hz
              have hb2:Below w.heap.size w w1:=Below.trans (by repeat (first | with_reducible assumption | with_reducible exact Below.refl _ _ | with_reducible refine below_drewN ?_ _ | with_reducible refine below_drew1 ?_ | with_reducible refine Below.al ?_ (by first | with_reducible exact Nat.le_refl _ | omega | (simp;done) | (simp;omega) | exact Nat.le_refl _) _ | with_reducible refine Below.setCell ?_ (by first | with_reducible exact Nat.le_refl _ | omega | (simp;done) | (simp;omega) | exact Nat.le_refl _) _ | assumption | exact Below.refl _ _ | refine below_drewN ?_ _ | refine below_drew1 ?_ | refine Below.al ?_ (by first | with_reducible exact Nat.le_refl _ | omega | (simp;done) | (simp;omega) | exact Nat.le_refl _) _ | refine Below.setCell ?_ (by first | with_reducible exact Nat.le_refl _ | omega | (simp;done) | (simp;omega) | exact Nat.le_refl _) _)) (hb1.mono (by first | with_reducible exact Nat.le_refl _ | omega | (simp;done) | (simp;omega) | exact Nat.le_refl _))
              have q0:w1.cell? ⟨w.heap.size,0,none⟩=some (.int .i64 0):=(by rw [(bcell hb1).1 _ _ (by first | omega | (simp;done) | (simp;omega))];first | with_reducible assumption | (go_simp;done) | assumption | (simp [World.cell?];done))
              have f0:w1.frozen? ⟨w.heap.size,0,none⟩=false:=(by rw [(bcell hb1).2 _ _ (by first | omega | (simp;done) | (simp;omega))];first | with_reducible assumption | (go_simp;done) | assumption | (simp [World.frozen?];done))
              have r0:w1.cell? ⟨w.heap.size+1,0,none⟩=some (.int .i64 a):=(by rw [(bcell hb1).1 _ _ (by first | omega | (simp;done) | (simp;omega))];first | with_reducible assumption | (go_simp;done) | assumption | (simp [World.cell?];done))
              have q1:w1.cell? ⟨w.heap.size,1,none⟩=some (.int .i64 0):=(by rw [(bcell hb1).1 _ _ (by first | omega | (simp;done) | (simp;omega))];first | with_reducible assumption | (go_simp;done) | assumption | (simp [World.cell?];done))
              have f1:w1.frozen? ⟨w.heap.size,1,none⟩=false:=(by rw [(bcell hb1).2 _ _ (by first | omega | (simp;done) | (simp;omega))];first | with_reducible assumption | (go_simp;done) | assumption | (simp [World.frozen?];done))
              have r1:w1.cell? ⟨w.heap.size+1,1,none⟩=some (.int .i64 b):=(by rw [(bcell hb1).1 _ _ (by first | omega | (simp;done) | (simp;omega))];first | with_reducible assumption | (go_simp;done) | assumption | (simp [World.cell?];done))
              have HB:=hid (And.intro hb1 hb2);clear hb1 hb2
              go_wp2_with fail
              refine bodyPost_ret (v:=ratB (a,b,true)) ?_ rfl ⟨by rw [HR.out,HOK.out];rfl,?_⟩
              · simp [results,Try.results74,go_sem,q0,q1]
              · have hb2:=HB.out.2
                exact (by repeat (first | with_reducible assumption | with_reducible exact Below.refl _ _ | with_reducible refine below_drewN ?_ _ | with_reducible refine below_drew1 ?_ | with_reducible refine Below.al ?_ (by first | with_reducible exact Nat.le_refl _ | omega | (simp;done) | (simp;omega) | exact Nat.le_refl _) _ | with_reducible refine Below.setCell ?_ (by first | with_reducible exact Nat.le_refl _ | omega | (simp;done) | (simp;omega) | exact Nat.le_refl _) _ | assumption | exact Below.refl _ _ | refine below_drewN ?_ _ | refine below_drew1 ?_ | refine Below.al ?_ (by first | with_reducible exact Nat.le_refl _ | omega | (simp;done) | (simp;omega) | exact Nat.le_refl _) _ | refine Below.setCell ?_ (by first | with_reducible exact Nat.le_refl _ | omega | (simp;done) | (simp;omega) | exact Nat.le_refl _) _))
          | false =>
            go_enter Try.func74,Try.ntmps74
            go_wp2_with fail
            refine (implWithin n (-4000000000000000000) 4000000000000000000 _).mono ?_
            rintro e w1 ⟨rfl,m1,rfl⟩
            rw [k1.out]
            go_wp2_with fail
            refine (implWithin d (-4000000000000000000) 4000000000000000000 _).mono ?_
            rintro e w1 ⟨rfl,m2,rfl⟩
            rw [k2.out]
            go_wp2_with fail
            refine (implAbs (n) _ (by omega)).mono ?_
            rintro e w1 ⟨rfl,m3,rfl⟩
            go_wp2_with fail
            all_goals
              refine (HG.out _ _ (by omega)).mono ?_
              rintro e w1 ⟨rfl,m4,rfl⟩
              go_wp2_with fail
              go_region
              go_wp2_with fail
              refine (implValidRat a b _ HI2.out.1 HI2.out.2).mono ?_
              rintro e w1 ⟨rfl,hb1⟩
              rw [HOK.out]
              have hz:=hb1.size
              simp at hz
              have hb2:Below w.heap.size w w1:=Below.trans (by repeat (first | with_reducible assumption | with_reducible exact Below.refl _ _ | with_reducible refine below_drewN ?_ _ | with_reducible refine below_drew1 ?_ | with_reducible refine Below.al ?_ (by first | with_reducible exact Nat.le_refl _ | omega | (simp;done) | (simp;omega) | exact Nat.le_refl _) _ | with_reducible refine Below.setCell ?_ (by first | with_reducible exact Nat.le_refl _ | omega | (simp;done) | (simp;omega) | exact Nat.le_refl _) _ | assumption | exact Below.refl _ _ | refine below_drewN ?_ _ | refine below_drew1 ?_ | refine Below.al ?_ (by first | with_reducible exact Nat.le_refl _ | omega | (simp;done) | (simp;omega) | exact Nat.le_refl _) _ | refine Below.setCell ?_ (by first | with_reducible exact Nat.le_refl _ | omega | (simp;done) | (simp;omega) | exact Nat.le_refl _) _)) (hb1.mono (by first | with_reducible exact Nat.le_refl _ | omega | (simp;done) | (simp;omega) | exact Nat.le_refl _))
              have q0:w1.cell? ⟨w.heap.size,0,none⟩=some (.int .i64 0):=(by rw [(bcell hb1).1 _ _ (by first | omega | (simp;done) | (simp;omega))];first | with_reducible assumption | (go_simp;done) | assumption | (simp [World.cell?];done))
              have f0:w1.frozen? ⟨w.heap.size,0,none⟩=false:=(by rw [(bcell hb1).2 _ _ (by first | omega | (simp;done) | (simp;omega))];first | with_reducible assumption | (go_simp;done) | assumption | (simp [World.frozen?];done))
              have r0:w1.cell? ⟨w.heap.size+1,0,none⟩=some (.int .i64 a):=(by rw [(bcell hb1).1 _ _ (by first | omega | (simp;done) | (simp;omega))];first | with_reducible assumption | (go_simp;done) | assumption | (simp [World.cell?];done))
              have q1:w1.cell? ⟨w.heap.size,1,none⟩=some (.int .i64 0):=(by rw [(bcell hb1).1 _ _ (by first | omega | (simp;done) | (simp;omega))];first | with_reducible assumption | (go_simp;done) | assumption | (simp [World.cell?];done))
              have f1:w1.frozen? ⟨w.heap.size,1,none⟩=false:=(by rw [(bcell hb1).2 _ _ (by first | omega | (simp;done) | (simp;omega))];first | with_reducible assumption | (go_simp;done) | assumption | (simp [World.frozen?];done))
              have r1:w1.cell? ⟨w.heap.size+1,1,none⟩=some (.int .i64 b):=(by rw [(bcell hb1).1 _ _ (by first | omega | (simp;done) | (simp;omega))];first | with_reducible assumption | (go_simp;done) | assumption | (simp [World.cell?];done))
              have HB:=hid (And.intro hb1 hb2);clear hb1 hb2
              go_wp2_with fail
              refine bodyPost_ret (v:=ratB (0,0,false)) ?_ rfl ⟨by rw [HR.out,HOK.out];rfl,?_⟩
              · simp [results,Try.results74,go_sem,q0,q1]
              · have hb2:=HB.out.2
                exact (by repeat (first | with_reducible assumption | with_reducible exact Below.refl _ _ | with_reducible refine below_drewN ?_ _ | with_reducible refine below_drew1 ?_ | with_reducible refine Below.al ?_ (by first | with_reducible exact Nat.le_refl _ | omega | (simp;done) | (simp;omega) | exact Nat.le_refl _) _ | with_reducible refine Below.setCell ?_ (by first | with_reducible exact Nat.le_refl _ | omega | (simp;done) | (simp;omega) | exact Nat.le_refl _) _ | assumption | exact Below.refl _ _ | refine below_drewN ?_ _ | refine below_drew1 ?_ | refine Below.al ?_ (by first | with_reducible exact Nat.le_refl _ | omega | (simp;done) | (simp;omega) | exact Nat.le_refl _) _ | refine Below.setCell ?_ (by first | with_reducible exact Nat.le_refl _ | omega | (simp;done) | (simp;omega) | exact Nat.le_refl _) _))
      · have k2:=hid (show decide (-4000000000000000000≤d∧d≤4000000000000000000)=false by simpa using h2)
        have HF:=hid (newRat_no (n:=n) (.inr (.inr h2)));clear h1 h2
        go_enter Try.func74,Try.ntmps74
        go_wp2_with fail
        refine (implWithin n (-4000000000000000000) 4000000000000000000 _).mono ?_
        rintro e w1 ⟨rfl,m1,rfl⟩
        rw [k1.out]
        go_wp2_with fail
        refine (implWithin d (-4000000000000000000) 4000000000000000000 _).mono ?_
        rintro e w1 ⟨rfl,m2,rfl⟩
        rw [k2.out]
        go_wp2_with fail
        refine bodyPost_ret (v:=ratB (0,0,false)) (by simp [results,Try.results74,go_sem]) rfl ⟨by rw [HF.out],(by repeat (first | with_reducible assumption | with_reducible exact Below.refl _ _ | with_reducible refine below_drewN ?_ _ | with_reducible refine below_drew1 ?_ | with_reducible refine Below.al ?_ (by first | with_reducible exact Nat.le_refl _ | omega | (simp;done) | (simp;omega) | exact Nat.le_refl _) _ | with_reducible refine Below.setCell ?_ (by first | with_reducible exact Nat.le_refl _ | omega | (simp;done) | (simp;omega) | exact Nat.le_refl _) _ | assumption | exact Below.refl _ _ | refine below_drewN ?_ _ | refine below_drew1 ?_ | refine Below.al ?_ (by first | with_reducible exact Nat.le_refl _ | omega | (simp;done) | (simp;omega) | exact Nat.le_refl _) _ | refine Below.setCell ?_ (by first | with_reducible exact Nat.le_refl _ | omega | (simp;done) | (simp;omega) | exact Nat.le_refl _) _))⟩
    · have k1:=hid (show decide (-4000000000000000000≤n∧n≤4000000000000000000)=false by simpa using h1)
      have HF:=hid (newRat_no (d:=d) (.inr (.inl h1)));clear h1
      go_enter Try.func74,Try.ntmps74
      go_wp2_with fail
      refine (implWithin n (-4000000000000000000) 4000000000000000000 _).mono ?_
      rintro e w1 ⟨rfl,m1,rfl⟩
      rw [k1.out]
      go_wp2_with fail
      refine bodyPost_ret (v:=ratB (0,0,false)) (by simp [results,Try.results74,go_sem]) rfl ⟨by rw [HF.out],(by repeat (first | with_reducible assumption | with_reducible exact Below.refl _ _ | with_reducible refine below_drewN ?_ _ | with_reducible refine below_drew1 ?_ | with_reducible refine Below.al ?_ (by first | with_reducible exact Nat.le_refl _ | omega | (simp;done) | (simp;omega) | exact Nat.le_refl _) _ | with_reducible refine Below.setCell ?_ (by first | with_reducible exact Nat.le_refl _ | omega | (simp;done) | (simp;omega) | exact Nat.le_refl _) _ | assumption | exact Below.refl _ _ | refine below_drewN ?_ _ | refine below_drew1 ?_ | refine Below.al ?_ (by first | with_reducible exact Nat.le_refl _ | omega | (simp;done) | (simp;omega) | exact Nat.le_refl _) _ | refine Below.setCell ?_ (by first | with_reducible exact Nat.le_refl _ | omega | (simp;done) | (simp;omega) | exact Nat.le_refl _) _))⟩
set_option maxHeartbeats 3200000 in
theorem specNewRat (n d:Int) (w:World) (hn:I64 n) (hd:I64 d) :
    Calls Try.prog 70 #[.int .i64 n,.int .i64 d] w (Leaves w (ratB (newRat n d))):=by
  have HI:=hid (And.intro hn hd);clear hn hd
  have hwm:IntKind.i64.wrap (-4000000000000000000) = -4000000000000000000:=by decide
  by_cases h0:d=0
  · have HF:=hid (newRat_no (n:=n) (d:=d) (.inl h0))
    subst h0
    go_enter Try.func70,Try.ntmps70
    go_wp2_with fail
    refine bodyPost_ret (v:=ratB (0,0,false)) (by simp [results,Try.results70,go_sem]) rfl ⟨by rw [HF.out],(by repeat (first | with_reducible assumption | with_reducible exact Below.refl _ _ | with_reducible refine below_drewN ?_ _ | with_reducible refine below_drew1 ?_ | with_reducible refine Below.al ?_ (by first | with_reducible exact Nat.le_refl _ | omega | (simp;done) | (simp;omega) | exact Nat.le_refl _) _ | with_reducible refine Below.setCell ?_ (by first | with_reducible exact Nat.le_refl _ | omega | (simp;done) | (simp;omega) | exact Nat.le_refl _) _ | assumption | exact Below.refl _ _ | refine below_drewN ?_ _ | refine below_drew1 ?_ | refine Below.al ?_ (by first | with_reducible exact Nat.le_refl _ | omega | (simp;done) | (simp;omega) | exact Nat.le_refl _) _ | refine Below.setCell ?_ (by first | with_reducible exact Nat.le_refl _ | omega | (simp;done) | (simp;omega) | exact Nat.le_refl _) _))⟩
  · have d0:(d == 0)=false:=by simpa using h0
    by_cases h1:-4000000000000000000≤n∧n≤4000000000000000000
    · have k1:=hid (show decide (-4000000000000000000≤n∧n≤4000000000000000000)=true by simpa using h1)
      by_cases h2:-4000000000000000000≤d∧d≤4000000000000000000
      · have k2:=hid (show decide (-4000000000000000000≤d∧d≤4000000000000000000)=true by simpa using h2)
        by_cases h3:d<0
        · have HD3:=hid h3
          obtain ⟨g,hg⟩:∃ g,Nat.gcd (-n).natAbs (-d).toNat=g:=⟨_,rfl⟩
          have HG:=hid (fun (w':World) (x:Int) (hx:x=((-n).natAbs:Nat))=>show Calls Try.prog 68 #[.int .i64 x,.int .i64 (-d)] w' (Gives w' (.int .i64 (g:Nat))) by
            have:=specGcd (-n).natAbs (-d).toNat w' (by omega) (by omega)
            rwa [show (((-d).toNat:Nat):Int) = -d from by omega,← hx,hg] at this)
          have hg0:0<g:=by rw [← hg];exact Nat.gcd_pos_of_pos_right _ (by omega)
          have hgi:((g:Int) == 0)=false:=by simp;omega
          have HR:=hid (newRat_neg (by omega) h2.1 h1 hg);clear hg
          have hq1:=tdiv_i64 (n:=-n) (g:=g) (by omega)
          have hq2:=tdiv_i64 (n:=-d) (g:=g) (by omega)
          obtain ⟨a,ha⟩:∃ a,(-n).tdiv g=a:=⟨_,rfl⟩
          obtain ⟨b,hb⟩:∃ b,(-d).tdiv g=b:=⟨_,rfl⟩
          rw [ha] at hq1;rw [hb] at hq2;rw [ha,hb] at HR
          have hwn:IntKind.i64.wrap (-n) = -n:=IntWalk.i64_in _ (by omega)
          have hwd:IntKind.i64.wrap (-d) = -d:=IntWalk.i64_in _ (by omega)
          have hwn2:IntKind.i64.wrap (-(-n)) = -(-n):=IntWalk.i64_in _ (by omega)
          have HA:=hid (And.intro ha hb)
          have HI2:Hid (I64 a∧I64 b):=hid ⟨by unfold I64;omega,by unfold I64;omega⟩
          obtain ⟨ok,hok⟩:∃ ok,ratOK a b=ok:=⟨_,rfl⟩
          have HOK:=hid hok;clear hok
          cases ok with
          | true =>
            go_enter Try.func70,Try.ntmps70
            go_wp2_with fail
            refine (specIn n (-4000000000000000000) 4000000000000000000 _).mono ?_
            rintro e w1 ⟨rfl,m1,rfl⟩
            rw [k1.out]
            go_wp2_with fail
            refine (specIn d (-4000000000000000000) 4000000000000000000 _).mono ?_
            rintro e w1 ⟨rfl,m2,rfl⟩
            rw [k2.out]
            go_wp2_with fail
            all_goals
              refine (HG.out _ _ (by omega)).mono ?_
              rintro e w1 ⟨rfl,m4,rfl⟩
              go_wp2_with fail
              go_region
              go_wp2_with fail
              refine (specValidRat a b _ HI2.out.1 HI2.out.2).mono ?_
              rintro e w1 ⟨rfl,hb1⟩
              rw [HOK.out]
              have hz:=hb1.size
              simp at hz
              have hb2:Below w.heap.size w w1:=Below.trans (by repeat (first | with_reducible assumption | with_reducible exact Below.refl _ _ | with_reducible refine below_drewN ?_ _ | with_reducible refine below_drew1 ?_ | with_reducible refine Below.al ?_ (by first | with_reducible exact Nat.le_refl _ | omega | (simp;done) | (simp;omega) | exact Nat.le_refl _) _ | with_reducible refine Below.setCell ?_ (by first | with_reducible exact Nat.le_refl _ | omega | (simp;done) | (simp;omega) | exact Nat.le_refl _) _ | assumption | exact Below.refl _ _ | refine below_drewN ?_ _ | refine below_drew1 ?_ | refine Below.al ?_ (by first | with_reducible exact Nat.le_refl _ | omega | (simp;done) | (simp;omega) | exact Nat.le_refl _) _ | refine Below.setCell ?_ (by first | with_reducible exact Nat.le_refl _ | omega | (simp;done) | (simp;omega) | exact Nat.le_refl _) _)) (hb1.mono (by first | with_reducible exact Nat.le_refl _ | omega | (simp;done) | (simp;omega) | exact Nat.le_refl _))
              have q0:w1.cell? ⟨w.heap.size,0,none⟩=some (.int .i64 0):=(by rw [(bcell hb1).1 _ _ (by first | omega | (simp;done) | (simp;omega))];first | with_reducible assumption | (go_simp;done) | assumption | (simp [World.cell?];done))
              have f0:w1.frozen? ⟨w.heap.size,0,none⟩=false:=(by rw [(bcell hb1).2 _ _ (by first | omega | (simp;done) | (simp;omega))];first | with_reducible assumption | (go_simp;done) | assumption | (simp [World.frozen?];done))
              have r0:w1.cell? ⟨w.heap.size+1,0,none⟩=some (.int .i64 a):=(by rw [(bcell hb1).1 _ _ (by first | omega | (simp;done) | (simp;omega))];first | with_reducible assumption | (go_simp;done) | assumption | (simp [World.cell?];done))
              have q1:w1.cell? ⟨w.heap.size,1,none⟩=some (.int .i64 0):=(by rw [(bcell hb1).1 _ _ (by first | omega | (simp;done) | (simp;omega))];first | with_reducible assumption | (go_simp;done) | assumption | (simp [World.cell?];done))
              have f1:w1.frozen? ⟨w.heap.size,1,none⟩=false:=(by rw [(bcell hb1).2 _ _ (by first | omega | (simp;done) | (simp;omega))];first | with_reducible assumption | (go_simp;done) | assumption | (simp [World.frozen?];done))
              have r1:w1.cell? ⟨w.heap.size+1,1,none⟩=some (.int .i64 b):=(by rw [(bcell hb1).1 _ _ (by first | omega | (simp;done) | (simp;omega))];first | with_reducible assumption | (go_simp;done) | assumption | (simp [World.cell?];done))
              have HB:=hid (And.intro hb1 hb2);clear hb1 hb2
              go_wp2_with fail
              refine bodyPost_ret (v:=ratB (a,b,true)) ?_ rfl ⟨by rw [HR.out,HOK.out];rfl,?_⟩
              · simp [results,Try.results70,go_sem,q0,q1]
              · have hb2:=HB.out.2
                exact (by repeat (first | with_reducible assumption | with_reducible exact Below.refl _ _ | with_reducible refine below_drewN ?_ _ | with_reducible refine below_drew1 ?_ | with_reducible refine Below.al ?_ (by first | with_reducible exact Nat.le_refl _ | omega | (simp;done) | (simp;omega) | exact Nat.le_refl _) _ | with_reducible refine Below.setCell ?_ (by first | with_reducible exact Nat.le_refl _ | omega | (simp;done) | (simp;omega) | exact Nat.le_refl _) _ | assumption | exact Below.refl _ _ | refine below_drewN ?_ _ | refine below_drew1 ?_ | refine Below.al ?_ (by first | with_reducible exact Nat.le_refl _ | omega | (simp;done) | (simp;omega) | exact Nat.le_refl _) _ | refine Below.setCell ?_ (by first | with_reducible exact Nat.le_refl _ | omega | (simp;done) | (simp;omega) | exact Nat.le_refl _) _))
          | false =>
            go_enter Try.func70,Try.ntmps70
            go_wp2_with fail
            refine (specIn n (-4000000000000000000) 4000000000000000000 _).mono ?_
            rintro e w1 ⟨rfl,m1,rfl⟩
            rw [k1.out]
            go_wp2_with fail
            refine (specIn d (-4000000000000000000) 4000000000000000000 _).mono ?_
            rintro e w1 ⟨rfl,m2,rfl⟩
            rw [k2.out]
            go_wp2_with fail
            all_goals
              refine (HG.out _ _ (by omega)).mono ?_
              rintro e w1 ⟨rfl,m4,rfl⟩
              go_wp2_with fail
              go_region
              go_wp2_with fail
              refine (specValidRat a b _ HI2.out.1 HI2.out.2).mono ?_
              rintro e w1 ⟨rfl,hb1⟩
              rw [HOK.out]
              have hz:=hb1.size
              simp at hz
              have hb2:Below w.heap.size w w1:=Below.trans (by repeat (first | with_reducible assumption | with_reducible exact Below.refl _ _ | with_reducible refine below_drewN ?_ _ | with_reducible refine below_drew1 ?_ | with_reducible refine Below.al ?_ (by first | with_reducible exact Nat.le_refl _ | omega | (simp;done) | (simp;omega) | exact Nat.le_refl _) _ | with_reducible refine Below.setCell ?_ (by first | with_reducible exact Nat.le_refl _ | omega | (simp;done) | (simp;omega) | exact Nat.le_refl _) _ | assumption | exact Below.refl _ _ | refine below_drewN ?_ _ | refine below_drew1 ?_ | refine Below.al ?_ (by first | with_reducible exact Nat.le_refl _ | omega | (simp;done) | (simp;omega) | exact Nat.le_refl _) _ | refine Below.setCell ?_ (by first | with_reducible exact Nat.le_refl _ | omega | (simp;done) | (simp;omega) | exact Nat.le_refl _) _)) (hb1.mono (by first | with_reducible exact Nat.le_refl _ | omega | (simp;done) | (simp;omega) | exact Nat.le_refl _))
              have q0:w1.cell? ⟨w.heap.size,0,none⟩=some (.int .i64 0):=(by rw [(bcell hb1).1 _ _ (by first | omega | (simp;done) | (simp;omega))];first | with_reducible assumption | (go_simp;done) | assumption | (simp [World.cell?];done))
              have f0:w1.frozen? ⟨w.heap.size,0,none⟩=false:=(by rw [(bcell hb1).2 _ _ (by first | omega | (simp;done) | (simp;omega))];first | with_reducible assumption | (go_simp;done) | assumption | (simp [World.frozen?];done))
              have r0:w1.cell? ⟨w.heap.size+1,0,none⟩=some (.int .i64 a):=(by rw [(bcell hb1).1 _ _ (by first | omega | (simp;done) | (simp;omega))];first | with_reducible assumption | (go_simp;done) | assumption | (simp [World.cell?];done))
              have q1:w1.cell? ⟨w.heap.size,1,none⟩=some (.int .i64 0):=(by rw [(bcell hb1).1 _ _ (by first | omega | (simp;done) | (simp;omega))];first | with_reducible assumption | (go_simp;done) | assumption | (simp [World.cell?];done))
              have f1:w1.frozen? ⟨w.heap.size,1,none⟩=false:=(by rw [(bcell hb1).2 _ _ (by first | omega | (simp;done) | (simp;omega))];first | with_reducible assumption | (go_simp;done) | assumption | (simp [World.frozen?];done))
              have r1:w1.cell? ⟨w.heap.size+1,1,none⟩=some (.int .i64 b):=(by rw [(bcell hb1).1 _ _ (by first | omega | (simp;done) | (simp;omega))];first | with_reducible assumption | (go_simp;done) | assumption | (simp [World.cell?];done))
              have HB:=hid (And.intro hb1 hb2);clear hb1 hb2
              go_wp2_with fail
              refine bodyPost_ret (v:=ratB (0,0,false)) ?_ rfl ⟨by rw [HR.out,HOK.out];rfl,?_⟩
              · simp [results,Try.results70,go_sem,q0,q1]
              · have hb2:=HB.out.2
                exact (by repeat (first | with_reducible assumption | with_reducible exact Below.refl _ _ | with_reducible refine below_drewN ?_ _ | with_reducible refine below_drew1 ?_ | with_reducible refine Below.al ?_ (by first | with_reducible exact Nat.le_refl _ | omega | (simp;done) | (simp;omega) | exact Nat.le_refl _) _ | with_reducible refine Below.setCell ?_ (by first | with_reducible exact Nat.le_refl _ | omega | (simp;done) | (simp;omega) | exact Nat.le_refl _) _ | assumption | exact Below.refl _ _ | refine below_drewN ?_ _ | refine below_drew1 ?_ | refine Below.al ?_ (by first | with_reducible exact Nat.le_refl _ | omega | (simp;done) | (simp;omega) | exact Nat.le_refl _) _ | refine Below.setCell ?_ (by first | with_reducible exact Nat.le_refl _ | omega | (simp;done) | (simp;omega) | exact Nat.le_refl _) _))
        · have HD3:=hid h3
          obtain ⟨g,hg⟩:∃ g,Nat.gcd (n).natAbs (d).toNat=g:=⟨_,rfl⟩
          have HG:=hid (fun (w':World) (x:Int) (hx:x=((n).natAbs:Nat))=>show Calls Try.prog 68 #[.int .i64 x,.int .i64 (d)] w' (Gives w' (.int .i64 (g:Nat))) by
            have:=specGcd (n).natAbs (d).toNat w' (by omega) (by omega)
            rwa [show (((d).toNat:Nat):Int)=d from by omega,← hx,hg] at this)
          have hg0:0<g:=by rw [← hg];exact Nat.gcd_pos_of_pos_right _ (by omega)
          have hgi:((g:Int) == 0)=false:=by simp;omega
          have HR:=hid (newRat_pos (by omega) h2.2 h1 hg);clear hg
          have hq1:=tdiv_i64 (n:=n) (g:=g) (by omega)
          have hq2:=tdiv_i64 (n:=d) (g:=g) (by omega)
          obtain ⟨a,ha⟩:∃ a,(n).tdiv g=a:=⟨_,rfl⟩
          obtain ⟨b,hb⟩:∃ b,(d).tdiv g=b:=⟨_,rfl⟩
          rw [ha] at hq1;rw [hb] at hq2;rw [ha,hb] at HR
          have hwn2:IntKind.i64.wrap (-(n)) = -(n):=IntWalk.i64_in _ (by omega)
          have HA:=hid (And.intro ha hb)
          have HI2:Hid (I64 a∧I64 b):=hid ⟨by unfold I64;omega,by unfold I64;omega⟩
          obtain ⟨ok,hok⟩:∃ ok,ratOK a b=ok:=⟨_,rfl⟩
          have HOK:=hid hok;clear hok
          cases ok with
          | true =>
            go_enter Try.func70,Try.ntmps70
            go_wp2_with fail
            refine (specIn n (-4000000000000000000) 4000000000000000000 _).mono ?_
            rintro e w1 ⟨rfl,m1,rfl⟩
            rw [k1.out]
            go_wp2_with fail
            refine (specIn d (-4000000000000000000) 4000000000000000000 _).mono ?_
            rintro e w1 ⟨rfl,m2,rfl⟩
            rw [k2.out]
            go_wp2_with fail
            all_goals
              refine (HG.out _ _ (by omega)).mono ?_
              rintro e w1 ⟨rfl,m4,rfl⟩
              go_wp2_with fail
              go_region
              go_wp2_with fail
              refine (specValidRat a b _ HI2.out.1 HI2.out.2).mono ?_
              rintro e w1 ⟨rfl,hb1⟩
              rw [HOK.out]
              have hz:=hb1.size
              simp at hz
              have hb2:Below w.heap.size w w1:=Below.trans (by repeat (first | with_reducible assumption | with_reducible exact Below.refl _ _ | with_reducible refine below_drewN ?_ _ | with_reducible refine below_drew1 ?_ | with_reducible refine Below.al ?_ (by first | with_reducible exact Nat.le_refl _ | omega | (simp;done) | (simp;omega) | exact Nat.le_refl _) _ | with_reducible refine Below.setCell ?_ (by first | with_reducible exact Nat.le_refl _ | omega | (simp;done) | (simp;omega) | exact Nat.le_refl _) _ | assumption | exact Below.refl _ _ | refine below_drewN ?_ _ | refine below_drew1 ?_ | refine Below.al ?_ (by first | with_reducible exact Nat.le_refl _ | omega | (simp;done) | (simp;omega) | exact Nat.le_refl _) _ | refine Below.setCell ?_ (by first | with_reducible exact Nat.le_refl _ | omega | (simp;done) | (simp;omega) | exact Nat.le_refl _) _)) (hb1.mono (by first | with_reducible exact Nat.le_refl _ | omega | (simp;done) | (simp;omega) | exact Nat.le_refl _))
              have q0:w1.cell? ⟨w.heap.size,0,none⟩=some (.int .i64 0):=(by rw [(bcell hb1).1 _ _ (by first | omega | (simp;done) | (simp;omega))];first | with_reducible assumption | (go_simp;done) | assumption | (simp [World.cell?];done))
              have f0:w1.frozen? ⟨w.heap.size,0,none⟩=false:=(by rw [(bcell hb1).2 _ _ (by first | omega | (simp;done) | (simp;omega))];first | with_reducible assumption | (go_simp;done) | assumption | (simp [World.frozen?];done))
              have r0:w1.cell? ⟨w.heap.size+1,0,none⟩=some (.int .i64 a):=(by rw [(bcell hb1).1 _ _ (by first | omega | (simp;done) | (simp;omega))];first | with_reducible assumption | (go_simp;done) | assumption | (simp [World.cell?];done))
              have q1:w1.cell? ⟨w.heap.size,1,none⟩=some (.int .i64 0):=(by rw [(bcell hb1).1 _ _ (by first | omega | (simp;done) | (simp;omega))];first | with_reducible assumption | (go_simp;done) | assumption | (simp [World.cell?];done))
              have f1:w1.frozen? ⟨w.heap.size,1,none⟩=false:=(by rw [(bcell hb1).2 _ _ (by first | omega | (simp;done) | (simp;omega))];first | with_reducible assumption | (go_simp;done) | assumption | (simp [World.frozen?];done))
              have r1:w1.cell? ⟨w.heap.size+1,1,none⟩=some (.int .i64 b):=(by rw [(bcell hb1).1 _ _ (by first | omega | (simp;done) | (simp;omega))];first | with_reducible assumption | (go_simp;done) | assumption | (simp [World.cell?];done))
              have HB:=hid (And.intro hb1 hb2);clear hb1 hb2
              go_wp2_with fail
              refine bodyPost_ret (v:=ratB (a,b,true)) ?_ rfl ⟨by rw [HR.out,HOK.out];rfl,?_⟩
              · simp [results,Try.results70,go_sem,q0,q1]
              · have hb2:=HB.out.2
                exact (by repeat (first | with_reducible assumption | with_reducible exact Below.refl _ _ | with_reducible refine below_drewN ?_ _ | with_reducible refine below_drew1 ?_ | with_reducible refine Below.al ?_ (by first | with_reducible exact Nat.le_refl _ | omega | (simp;done) | (simp;omega) | exact Nat.le_refl _) _ | with_reducible refine Below.setCell ?_ (by first | with_reducible exact Nat.le_refl _ | omega | (simp;done) | (simp;omega) | exact Nat.le_refl _) _ | assumption | exact Below.refl _ _ | refine below_drewN ?_ _ | refine below_drew1 ?_ | refine Below.al ?_ (by first | with_reducible exact Nat.le_refl _ | omega | (simp;done) | (simp;omega) | exact Nat.le_refl _) _ | refine Below.setCell ?_ (by first | with_reducible exact Nat.le_refl _ | omega | (simp;done) | (simp;omega) | exact Nat.le_refl _) _))
          | false =>
            go_enter Try.func70,Try.ntmps70
            go_wp2_with fail
            refine (specIn n (-4000000000000000000) 4000000000000000000 _).mono ?_
            rintro e w1 ⟨rfl,m1,rfl⟩
            rw [k1.out]
            go_wp2_with fail
            refine (specIn d (-4000000000000000000) 4000000000000000000 _).mono ?_
            rintro e w1 ⟨rfl,m2,rfl⟩
            rw [k2.out]
            go_wp2_with fail
            all_goals
              refine (HG.out _ _ (by omega)).mono ?_
              rintro e w1 ⟨rfl,m4,rfl⟩
              go_wp2_with fail
              go_region
              go_wp2_with fail
              refine (specValidRat a b _ HI2.out.1 HI2.out.2).mono ?_
              rintro e w1 ⟨rfl,hb1⟩
              rw [HOK.out]
              have hz:=hb1.size
              simp at hz
              have hb2:Below w.heap.size w w1:=Below.trans (by repeat (first | with_reducible assumption | with_reducible exact Below.refl _ _ | with_reducible refine below_drewN ?_ _ | with_reducible refine below_drew1 ?_ | with_reducible refine Below.al ?_ (by first | with_reducible exact Nat.le_refl _ | omega | (simp;done) | (simp;omega) | exact Nat.le_refl _) _ | with_reducible refine Below.setCell ?_ (by first | with_reducible exact Nat.le_refl _ | omega | (simp;done) | (simp;omega) | exact Nat.le_refl _) _ | assumption | exact Below.refl _ _ | refine below_drewN ?_ _ | refine below_drew1 ?_ | refine Below.al ?_ (by first | with_reducible exact Nat.le_refl _ | omega | (simp;done) | (simp;omega) | exact Nat.le_refl _) _ | refine Below.setCell ?_ (by first | with_reducible exact Nat.le_refl _ | omega | (simp;done) | (simp;omega) | exact Nat.le_refl _) _)) (hb1.mono (by first | with_reducible exact Nat.le_refl _ | omega | (simp;done) | (simp;omega) | exact Nat.le_refl _))
              have q0:w1.cell? ⟨w.heap.size,0,none⟩=some (.int .i64 0):=(by rw [(bcell hb1).1 _ _ (by first | omega | (simp;done) | (simp;omega))];first | with_reducible assumption | (go_simp;done) | assumption | (simp [World.cell?];done))
              have f0:w1.frozen? ⟨w.heap.size,0,none⟩=false:=(by rw [(bcell hb1).2 _ _ (by first | omega | (simp;done) | (simp;omega))];first | with_reducible assumption | (go_simp;done) | assumption | (simp [World.frozen?];done))
              have r0:w1.cell? ⟨w.heap.size+1,0,none⟩=some (.int .i64 a):=(by rw [(bcell hb1).1 _ _ (by first | omega | (simp;done) | (simp;omega))];first | with_reducible assumption | (go_simp;done) | assumption | (simp [World.cell?];done))
              have q1:w1.cell? ⟨w.heap.size,1,none⟩=some (.int .i64 0):=(by rw [(bcell hb1).1 _ _ (by first | omega | (simp;done) | (simp;omega))];first | with_reducible assumption | (go_simp;done) | assumption | (simp [World.cell?];done))
              have f1:w1.frozen? ⟨w.heap.size,1,none⟩=false:=(by rw [(bcell hb1).2 _ _ (by first | omega | (simp;done) | (simp;omega))];first | with_reducible assumption | (go_simp;done) | assumption | (simp [World.frozen?];done))
              have r1:w1.cell? ⟨w.heap.size+1,1,none⟩=some (.int .i64 b):=(by rw [(bcell hb1).1 _ _ (by first | omega | (simp;done) | (simp;omega))];first | with_reducible assumption | (go_simp;done) | assumption | (simp [World.cell?];done))
              have HB:=hid (And.intro hb1 hb2);clear hb1 hb2
              go_wp2_with fail
              refine bodyPost_ret (v:=ratB (0,0,false)) ?_ rfl ⟨by rw [HR.out,HOK.out];rfl,?_⟩
              · simp [results,Try.results70,go_sem,q0,q1]
              · have hb2:=HB.out.2
                exact (by repeat (first | with_reducible assumption | with_reducible exact Below.refl _ _ | with_reducible refine below_drewN ?_ _ | with_reducible refine below_drew1 ?_ | with_reducible refine Below.al ?_ (by first | with_reducible exact Nat.le_refl _ | omega | (simp;done) | (simp;omega) | exact Nat.le_refl _) _ | with_reducible refine Below.setCell ?_ (by first | with_reducible exact Nat.le_refl _ | omega | (simp;done) | (simp;omega) | exact Nat.le_refl _) _ | assumption | exact Below.refl _ _ | refine below_drewN ?_ _ | refine below_drew1 ?_ | refine Below.al ?_ (by first | with_reducible exact Nat.le_refl _ | omega | (simp;done) | (simp;omega) | exact Nat.le_refl _) _ | refine Below.setCell ?_ (by first | with_reducible exact Nat.le_refl _ | omega | (simp;done) | (simp;omega) | exact Nat.le_refl _) _))
      · have k2:=hid (show decide (-4000000000000000000≤d∧d≤4000000000000000000)=false by simpa using h2)
        have HF:=hid (newRat_no (n:=n) (.inr (.inr h2)));clear h1 h2
        go_enter Try.func70,Try.ntmps70
        go_wp2_with fail
        refine (specIn n (-4000000000000000000) 4000000000000000000 _).mono ?_
        rintro e w1 ⟨rfl,m1,rfl⟩
        rw [k1.out]
        go_wp2_with fail
        refine (specIn d (-4000000000000000000) 4000000000000000000 _).mono ?_
        rintro e w1 ⟨rfl,m2,rfl⟩
        rw [k2.out]
        go_wp2_with fail
        refine bodyPost_ret (v:=ratB (0,0,false)) (by simp [results,Try.results70,go_sem]) rfl ⟨by rw [HF.out],(by repeat (first | with_reducible assumption | with_reducible exact Below.refl _ _ | with_reducible refine below_drewN ?_ _ | with_reducible refine below_drew1 ?_ | with_reducible refine Below.al ?_ (by first | with_reducible exact Nat.le_refl _ | omega | (simp;done) | (simp;omega) | exact Nat.le_refl _) _ | with_reducible refine Below.setCell ?_ (by first | with_reducible exact Nat.le_refl _ | omega | (simp;done) | (simp;omega) | exact Nat.le_refl _) _ | assumption | exact Below.refl _ _ | refine below_drewN ?_ _ | refine below_drew1 ?_ | refine Below.al ?_ (by first | with_reducible exact Nat.le_refl _ | omega | (simp;done) | (simp;omega) | exact Nat.le_refl _) _ | refine Below.setCell ?_ (by first | with_reducible exact Nat.le_refl _ | omega | (simp;done) | (simp;omega) | exact Nat.le_refl _) _))⟩
    · have k1:=hid (show decide (-4000000000000000000≤n∧n≤4000000000000000000)=false by simpa using h1)
      have HF:=hid (newRat_no (d:=d) (.inr (.inl h1)));clear h1
      go_enter Try.func70,Try.ntmps70
      go_wp2_with fail
      refine (specIn n (-4000000000000000000) 4000000000000000000 _).mono ?_
      rintro e w1 ⟨rfl,m1,rfl⟩
      rw [k1.out]
      go_wp2_with fail
      refine bodyPost_ret (v:=ratB (0,0,false)) (by simp [results,Try.results70,go_sem]) rfl ⟨by rw [HF.out],(by repeat (first | with_reducible assumption | with_reducible exact Below.refl _ _ | with_reducible refine below_drewN ?_ _ | with_reducible refine below_drew1 ?_ | with_reducible refine Below.al ?_ (by first | with_reducible exact Nat.le_refl _ | omega | (simp;done) | (simp;omega) | exact Nat.le_refl _) _ | with_reducible refine Below.setCell ?_ (by first | with_reducible exact Nat.le_refl _ | omega | (simp;done) | (simp;omega) | exact Nat.le_refl _) _ | assumption | exact Below.refl _ _ | refine below_drewN ?_ _ | refine below_drew1 ?_ | refine Below.al ?_ (by first | with_reducible exact Nat.le_refl _ | omega | (simp;done) | (simp;omega) | exact Nat.le_refl _) _ | refine Below.setCell ?_ (by first | with_reducible exact Nat.le_refl _ | omega | (simp;done) | (simp;omega) | exact Nat.le_refl _) _))⟩
end Go.Proofs.Ytpbclpopoodklaa
