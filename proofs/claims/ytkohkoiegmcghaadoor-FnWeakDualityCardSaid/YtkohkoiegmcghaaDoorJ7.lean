/- Lemmas for the proof of FnCoverDuality, part 7 of 25: no condition of their own. -/
import Derived.Test.YtkohkoiegmcghaaDoorJ4
import Derived.Deep.Slices
import Derived.Deep.RegionHeld3
import Derived.Test.YtkohkoiegmcghaaDoorJ1
import Derived.Test.YtkohkoiegmcghaaDoorJ6
import Derived.Deep.DeepCutAuto
import Derived.Deep.CutBlock
import Derived.RegionTactic
import Derived.ChangeAlike
namespace Go.Proofs.YtkohkoiegmcghaaDoor
set_option linter.unusedSimpArgs false
set_option linter.unusedVariables false
open Go.RowKit
open Classical in
noncomputable def eqT (ar ar':Int) (rows rows':List (List Int)):Bool:=decide (ar=ar'∧rows=rows')
end Go.Proofs.YtkohkoiegmcghaaDoor
namespace Go.Proofs.YtkohkoiegmcghaaDoor
set_option linter.unusedSimpArgs false
set_option linter.unusedVariables false
open Go.RowKit
def CellM (v v':Value):Prop:=v'=v∨∃ x x',v=.int .i64 x∧v'=.int .i64 x'∧I64 x'
structure Marked (lo hi:Nat) (w w':World):Prop where
 os:w'.os=w.os
 tape:w'.tape=w.tape
 output:w'.output=w.output
 size:w'.heap.size=w.heap.size
 out:∀ k,(k<lo∨hi≤k)→w'.heap[k]? = w.heap[k]?
 cell:∀ p v,w.cell? p=some v→∃ v',w'.cell? p=some v'∧CellM v v'
 frz:∀ p,w'.frozen? p=w.frozen? p
def marks (k:Int):Nat→List Int
 | 0=>[]
 | n+1=>marks k n ++ [k+n]
end Go.Proofs.YtkohkoiegmcghaaDoor
namespace Go.Proofs.YtkohkoiegmcghaaDoor
set_option linter.unusedSimpArgs false
set_option linter.unusedVariables false
open Go.RowKit
structure MarkedG (lo hi:Nat) (w w':World):Prop where
 os:w'.os=w.os
 tape:w'.tape=w.tape
 output:w'.output=w.output
 size:w.heap.size≤w'.heap.size
 out:∀ k,k<w.heap.size→(k<lo∨hi≤k)→w'.heap[k]? = w.heap[k]?
 cell:∀ p v,w.cell? p=some v→∃ v',w'.cell? p=some v'∧CellM v v'
 frz:∀ p,w.cell? p ≠ none→w'.frozen? p=w.frozen? p
theorem beInts {fz:Bool} {lo hi B:Nat} {w w':World} {a:Option Addr} {n c:Nat} {xs:List Int} (h:IntsA fz lo hi w a n c xs) (hb:Below B w w') (hh:hi≤B):IntsA fz lo hi w' a n c xs:=h.be hb hh
theorem kpInts {fz:Bool} {lo hi:Nat} {w w':World} {a:Option Addr} {n c:Nat} {xs:List Int} (h:IntsA fz lo hi w a n c xs) (hb:Keeps lo hi w w'):IntsA fz lo hi w' a n c xs:=h.keep hb
end Go.Proofs.YtkohkoiegmcghaaDoor
namespace Go.Proofs.YtkohkoiegmcghaaDoor
set_option linter.unusedSimpArgs false
set_option linter.unusedVariables false
open Go.RowKit
structure RatD where
 num:Int
 den:Int
def qx (xs:List RatD) (i:Nat):RatD:=xs.getD i ⟨0,0⟩
theorem qx_lt {xs:List RatD} {i:Nat} (h:i<xs.length):qx xs i=xs[i]:=by simp [qx,h]
def mx (xss:List (List RatD)) (i:Nat):List RatD:=xss.getD i []
theorem mx_lt {xss:List (List RatD)} {i:Nat} (h:i<xss.length):mx xss i=xss[i]:=by simp [mx,h]
section
variable {fz:Bool} {lo hi B lo' hi':Nat} {w w':World} {a:Option Addr} {n c:Nat} {xs:List RatD} {xss:List (List RatD)}
end
end Go.Proofs.YtkohkoiegmcghaaDoor
namespace Go.Proofs.YtkohkoiegmcghaaDoor
set_option linter.unusedSimpArgs false
set_option linter.unusedVariables false
open Go.RowKit
def ratDV (x:RatD):DV:=.agg [.int x.num,.int x.den]
abbrev ratsD (xs:List RatD):DV:=.sl 2 (xs.map ratDV)
theorem cxs_two {C:Nat→Nat→Prop} {w:World} {x y:Int} {us:List Value}:CXs C w [.int x,.int y] us↔us=[.int .i64 x,.int .i64 y]∧I64 x∧I64 y:=by
 constructor
 ·rintro ⟨u,t,rfl,⟨rfl,h1⟩,u2,t2,rfl,⟨rfl,h2⟩,rfl⟩;exact ⟨rfl,h1,h2⟩
 ·rintro ⟨rfl,h1,h2⟩;exact ⟨[.int .i64 x],_,rfl,⟨rfl,h1⟩,[.int .i64 y],[],rfl,⟨rfl,h2⟩,rfl⟩
end Go.Proofs.YtkohkoiegmcghaaDoor
namespace Go.Proofs.YtkohkoiegmcghaaDoor
set_option linter.unusedSimpArgs false
set_option linter.unusedVariables false
open Go.RowKit
theorem gcd_turn {p q:Nat}:Nat.gcd q (p % q)=Nat.gcd p q:=by rw [Nat.gcd_comm q,← Nat.gcd_rec,Nat.gcd_comm]
set_option maxHeartbeats 800000 in
theorem specGcd (x y:Nat) (w:World) (hx:x≤4000000000000000000) (hy:y≤4000000000000000000) :
 Calls Tryd.prog 69 #[.int .i64 x,.int .i64 y] w (Gives w (.int .i64 (Nat.gcd x y:Nat))):=by
 go_enter Tryd.func69,Tryd.ntmps69
 go_wp2
 go_loopw [0,1] (fun a b wr=>∃ p q:Nat,a=.int .i64 p∧b=.int .i64 q∧p≤4000000000000000000∧q≤4000000000000000000∧Hid (Nat.gcd p q=Nat.gcd x y)∧∃ m,wr=w.drewN m) (fun _ b _=>(intOf b).toNat)
 case atStart=>exact ⟨x,y,rfl,rfl,hx,hy,hid rfl,0,rfl⟩
 case round =>
  obtain ⟨p,q,rfl,rfl,hp,hq,HG,m,rfl⟩:=hrel
  by_cases h0:q=0
  ·subst h0
   have HE:=hid (show Nat.gcd x y=p by rw [← HG.out];simp)
   go_wp2
   go_ret
   exact ⟨by rw [HE.out];rfl,by first | exact ⟨_,rfl⟩ | exact ⟨_,dd⟩⟩
  ·have hlt:p % q<q:=Nat.mod_lt _ (by omega)
   have HG2:=hid (show Nat.gcd q (p % q)=Nat.gcd x y by rw [gcd_turn];exact HG.out)
   go_wp2
   go_roundw
   case rel=>exact ⟨q,p % q,rfl,by go_num,hq,by omega,HG2,by first | exact ⟨_,rfl⟩ | exact ⟨_,dd⟩⟩
   case measure=>simp [intOf];omega
end Go.Proofs.YtkohkoiegmcghaaDoor
namespace Go.Proofs.YtkohkoiegmcghaaDoor
set_option linter.unusedSimpArgs false
set_option linter.unusedVariables false
open Go.RowKit
theorem max_abs (x:Int):max x (-x)=(x.natAbs:Int):=by omega
def ratOK (n d:Int):Bool:=decide (1≤d∧d≤1000000000) && (decide (-1000000000≤n∧n≤1000000000) && decide (Nat.gcd n.natAbs d.toNat=1))
theorem ratOK_d {n d:Int} (h:¬ (1≤d∧d≤1000000000)):ratOK n d=false:=by simp [ratOK,h]
theorem ratOK_n {n d:Int} (h:¬ (-1000000000≤n∧n≤1000000000)):ratOK n d=false:=by simp [ratOK,h]
theorem ratOK_g {n d:Int} (h1:1≤d∧d≤1000000000) (h2:-1000000000≤n∧n≤1000000000) {g:Nat} (hg:Nat.gcd n.natAbs d.toNat=g):ratOK n d=decide (g=1):=by subst hg;simp [ratOK,h1,h2]
theorem ratOK_out {n d:Int} (h:ratOK n d=true):(1≤d∧d≤1000000000)∧(-1000000000≤n∧n≤1000000000)∧Nat.gcd n.natAbs d.toNat=1:=by
 simp only [ratOK,Bool.and_eq_true,decide_eq_true_eq] at h;exact ⟨h.1,h.2.1,h.2.2⟩
theorem ratOK_neg (n d:Int):ratOK (-n) d=ratOK n d:=by
 have h:decide (-1000000000≤-n∧-n≤1000000000)=decide (-1000000000≤n∧n≤1000000000):=by rw [Bool.eq_iff_iff];simp;omega
 simp only [ratOK,Int.natAbs_neg,h]
abbrev ratV (n d:Int):Value:=.agg #[.int .i64 n,.int .i64 d]
set_option maxHeartbeats 1600000 in
theorem specValidRat (n d:Int) (w:World) (hn:I64 n) (hd:I64 d) :
 Calls Tryd.prog 55 #[ratV n d] w (Leaves w (.bool (ratOK n d))):=by
 have HI:=hid (And.intro hn hd);clear hn hd
 by_cases h1:1≤d∧d≤1000000000
 ·have k1:=hid (show decide (1≤d∧d≤1000000000)=true by simpa using h1)
  by_cases h2:-1000000000≤n∧n≤1000000000
  ·have k2:=hid (show decide (-1000000000≤n∧n≤1000000000)=true by simpa using h2)
   obtain ⟨g,hg⟩:∃ g,Nat.gcd n.natAbs d.toNat=g:=⟨_,rfl⟩
   have HG:=hid (fun (w':World) (x:Int) (hx:x=(n.natAbs:Int))=>show Calls Tryd.prog 69 #[.int .i64 x,.int .i64 d] w' (Gives w' (.int .i64 (g:Nat))) by
    have:=specGcd n.natAbs d.toNat w' (by omega) (by omega)
    rwa [show ((d.toNat:Nat):Int)=d from by omega,← hx,hg] at this)
   have HK:=hid (ratOK_g h1 h2 hg);clear hg
   have hwr:IntKind.i64.wrap (-n) = -n:=IntWalk.i64_in _ (by omega)
   have HH:=hid (And.intro h1 h2);clear h1
   by_cases h3:g=1
   ·have HQ:=hid (show decide (g=1)=true by simpa using h3)
    have e3:((g:Int) == 1)=true:=by simp [h3]
    have HH3:=hid h3;clear h3
    go_enter Tryd.func55,Tryd.ntmps55
    go_wp2_with fail
    refine (specIn d 1 1000000000 _).mono ?_
    rintro e w1 ⟨rfl,m1,rfl⟩
    rw [k1.out]
    go_wp2_with fail
    refine (specIn n (-1000000000) 1000000000 _).mono ?_
    rintro e w1 ⟨rfl,m2,rfl⟩
    rw [k2.out]
    go_wp2_with fail
    all_goals
     refine (HG.out _ _ (by omega)).mono ?_
     rintro e w1 ⟨rfl,m3,rfl⟩
     go_wp2_with fail
     go_ret
     exact ⟨by rw [HK.out,HQ.out];rfl,(by repeat (first | with_reducible assumption | with_reducible exact Below.refl _ _ | with_reducible refine below_drewN ?_ _ | with_reducible refine below_drew1 ?_ | with_reducible refine Below.al ?_ (by first | with_reducible exact Nat.le_refl _ | omega | (simp;done) | (simp;omega) | exact Nat.le_refl _) _ | with_reducible refine Below.setCell ?_ (by first | with_reducible exact Nat.le_refl _ | omega | (simp;done) | (simp;omega) | exact Nat.le_refl _) _ | assumption | exact Below.refl _ _ | refine below_drewN ?_ _ | refine below_drew1 ?_ | refine Below.al ?_ (by first | with_reducible exact Nat.le_refl _ | omega | (simp;done) | (simp;omega) | exact Nat.le_refl _) _ | refine Below.setCell ?_ (by first | with_reducible exact Nat.le_refl _ | omega | (simp;done) | (simp;omega) | exact Nat.le_refl _) _))⟩
   ·have HQ:=hid (show decide (g=1)=false by simpa using h3)
    have e3:((g:Int) == 1)=false:=by simp;omega
    have HH3:=hid h3;clear h3
    go_enter Tryd.func55,Tryd.ntmps55
    go_wp2_with fail
    refine (specIn d 1 1000000000 _).mono ?_
    rintro e w1 ⟨rfl,m1,rfl⟩
    rw [k1.out]
    go_wp2_with fail
    refine (specIn n (-1000000000) 1000000000 _).mono ?_
    rintro e w1 ⟨rfl,m2,rfl⟩
    rw [k2.out]
    go_wp2_with fail
    all_goals
     refine (HG.out _ _ (by omega)).mono ?_
     rintro e w1 ⟨rfl,m3,rfl⟩
     go_wp2_with fail
     go_ret
     exact ⟨by rw [HK.out,HQ.out];rfl,(by repeat (first | with_reducible assumption | with_reducible exact Below.refl _ _ | with_reducible refine below_drewN ?_ _ | with_reducible refine below_drew1 ?_ | with_reducible refine Below.al ?_ (by first | with_reducible exact Nat.le_refl _ | omega | (simp;done) | (simp;omega) | exact Nat.le_refl _) _ | with_reducible refine Below.setCell ?_ (by first | with_reducible exact Nat.le_refl _ | omega | (simp;done) | (simp;omega) | exact Nat.le_refl _) _ | assumption | exact Below.refl _ _ | refine below_drewN ?_ _ | refine below_drew1 ?_ | refine Below.al ?_ (by first | with_reducible exact Nat.le_refl _ | omega | (simp;done) | (simp;omega) | exact Nat.le_refl _) _ | refine Below.setCell ?_ (by first | with_reducible exact Nat.le_refl _ | omega | (simp;done) | (simp;omega) | exact Nat.le_refl _) _))⟩
  ·have k2:=hid (show decide (-1000000000≤n∧n≤1000000000)=false by simpa using h2)
   have HK:=hid (ratOK_n (d:=d) h2);clear h1 h2
   go_enter Tryd.func55,Tryd.ntmps55
   go_wp2_with fail
   refine (specIn d 1 1000000000 _).mono ?_
   rintro e w1 ⟨rfl,m1,rfl⟩
   rw [k1.out]
   go_wp2_with fail
   refine (specIn n (-1000000000) 1000000000 _).mono ?_
   rintro e w1 ⟨rfl,m2,rfl⟩
   rw [k2.out]
   go_wp2_with fail
   go_ret
   exact ⟨by rw [HK.out];rfl,(by repeat (first | with_reducible assumption | with_reducible exact Below.refl _ _ | with_reducible refine below_drewN ?_ _ | with_reducible refine below_drew1 ?_ | with_reducible refine Below.al ?_ (by first | with_reducible exact Nat.le_refl _ | omega | (simp;done) | (simp;omega) | exact Nat.le_refl _) _ | with_reducible refine Below.setCell ?_ (by first | with_reducible exact Nat.le_refl _ | omega | (simp;done) | (simp;omega) | exact Nat.le_refl _) _ | assumption | exact Below.refl _ _ | refine below_drewN ?_ _ | refine below_drew1 ?_ | refine Below.al ?_ (by first | with_reducible exact Nat.le_refl _ | omega | (simp;done) | (simp;omega) | exact Nat.le_refl _) _ | refine Below.setCell ?_ (by first | with_reducible exact Nat.le_refl _ | omega | (simp;done) | (simp;omega) | exact Nat.le_refl _) _))⟩
 ·have k1:=hid (show decide (1≤d∧d≤1000000000)=false by simpa using h1)
  have HK:=hid (ratOK_d (n:=n) h1);clear h1
  go_enter Tryd.func55,Tryd.ntmps55
  go_wp2_with fail
  refine (specIn d 1 1000000000 _).mono ?_
  rintro e w1 ⟨rfl,m1,rfl⟩
  rw [k1.out]
  go_wp2_with fail
  go_ret
  exact ⟨by rw [HK.out];rfl,(by repeat (first | with_reducible assumption | with_reducible exact Below.refl _ _ | with_reducible refine below_drewN ?_ _ | with_reducible refine below_drew1 ?_ | with_reducible refine Below.al ?_ (by first | with_reducible exact Nat.le_refl _ | omega | (simp;done) | (simp;omega) | exact Nat.le_refl _) _ | with_reducible refine Below.setCell ?_ (by first | with_reducible exact Nat.le_refl _ | omega | (simp;done) | (simp;omega) | exact Nat.le_refl _) _ | assumption | exact Below.refl _ _ | refine below_drewN ?_ _ | refine below_drew1 ?_ | refine Below.al ?_ (by first | with_reducible exact Nat.le_refl _ | omega | (simp;done) | (simp;omega) | exact Nat.le_refl _) _ | refine Below.setCell ?_ (by first | with_reducible exact Nat.le_refl _ | omega | (simp;done) | (simp;omega) | exact Nat.le_refl _) _))⟩
end Go.Proofs.YtkohkoiegmcghaaDoor
namespace Go.Proofs.YtkohkoiegmcghaaDoor
set_option linter.unusedSimpArgs false
set_option linter.unusedVariables false
open Go.RowKit
def newRat (n d:Int):Int×Int×Bool :=
 if d=0∨¬ (-4000000000000000000≤n∧n≤4000000000000000000)∨¬ (-4000000000000000000≤d∧d≤4000000000000000000) then (0,0,false)
 else
  let n':=if d<0 then -n else n
  let d':=if d<0 then -d else d
  let g:Int:=(Nat.gcd n'.natAbs d'.toNat:Nat)
  if ratOK (n'.tdiv g) (d'.tdiv g)=true then (n'.tdiv g,d'.tdiv g,true) else (0,0,false)
abbrev ratB (r:Int×Int×Bool):Value:=.tuple #[.agg #[.int .i64 r.1,.int .i64 r.2.1],.bool r.2.2]
theorem newRat_no {n d:Int} (h:d=0∨¬ (-4000000000000000000≤n∧n≤4000000000000000000)∨¬ (-4000000000000000000≤d∧d≤4000000000000000000)):newRat n d=(0,0,false):=by unfold newRat;exact if_pos h
theorem newRat_pos {n d:Int} {g:Nat} (h0:0<d) (h1:d≤4000000000000000000) (h2:-4000000000000000000≤n∧n≤4000000000000000000) (hg:Nat.gcd n.natAbs d.toNat=g) :
 newRat n d=if ratOK (n.tdiv g) (d.tdiv g)=true then (n.tdiv g,d.tdiv g,true) else (0,0,false):=by
 subst hg
 have hn:¬ (d=0∨¬ (-4000000000000000000≤n∧n≤4000000000000000000)∨¬ (-4000000000000000000≤d∧d≤4000000000000000000)):=by omega
 have h3:¬ d<0:=by omega
 simp only [newRat,if_neg hn,if_neg h3]
theorem newRat_neg {n d:Int} {g:Nat} (h0:d<0) (h1:-4000000000000000000≤d) (h2:-4000000000000000000≤n∧n≤4000000000000000000) (hg:Nat.gcd (-n).natAbs (-d).toNat=g) :
 newRat n d=if ratOK ((-n).tdiv g) ((-d).tdiv g)=true then ((-n).tdiv g,(-d).tdiv g,true) else (0,0,false):=by
 subst hg
 have hn:¬ (d=0∨¬ (-4000000000000000000≤n∧n≤4000000000000000000)∨¬ (-4000000000000000000≤d∧d≤4000000000000000000)):=by omega
 simp only [newRat,if_neg hn,if_pos h0]
theorem tdiv_i64 {n:Int} {g:Nat} (h:-4000000000000000000≤n∧n≤4000000000000000000):-4000000000000000000≤n.tdiv g∧n.tdiv g≤4000000000000000000:=by
 have:=Int.natAbs_tdiv_le_natAbs n g
 omega
set_option maxHeartbeats 3200000 in
theorem specNewRat (n d:Int) (w:World) (hn:I64 n) (hd:I64 d) :
 Calls Tryd.prog 52 #[.int .i64 n,.int .i64 d] w (Leaves w (ratB (newRat n d))):=by
 have HI:=hid (And.intro hn hd);clear hn hd
 have hwm:IntKind.i64.wrap (-4000000000000000000) = -4000000000000000000:=by decide
 by_cases h0:d=0
 ·have HF:=hid (newRat_no (n:=n) (d:=d) (.inl h0))
  subst h0
  go_enter Tryd.func52,Tryd.ntmps52
  go_wp2_with fail
  refine bodyPost_ret (v:=ratB (0,0,false)) (by simp [results,Tryd.results52,go_sem]) rfl ⟨by rw [HF.out],(by repeat (first | with_reducible assumption | with_reducible exact Below.refl _ _ | with_reducible refine below_drewN ?_ _ | with_reducible refine below_drew1 ?_ | with_reducible refine Below.al ?_ (by first | with_reducible exact Nat.le_refl _ | omega | (simp;done) | (simp;omega) | exact Nat.le_refl _) _ | with_reducible refine Below.setCell ?_ (by first | with_reducible exact Nat.le_refl _ | omega | (simp;done) | (simp;omega) | exact Nat.le_refl _) _ | assumption | exact Below.refl _ _ | refine below_drewN ?_ _ | refine below_drew1 ?_ | refine Below.al ?_ (by first | with_reducible exact Nat.le_refl _ | omega | (simp;done) | (simp;omega) | exact Nat.le_refl _) _ | refine Below.setCell ?_ (by first | with_reducible exact Nat.le_refl _ | omega | (simp;done) | (simp;omega) | exact Nat.le_refl _) _))⟩
 ·have d0:(d == 0)=false:=by simpa using h0
  by_cases h1:-4000000000000000000≤n∧n≤4000000000000000000
  ·have k1:=hid (show decide (-4000000000000000000≤n∧n≤4000000000000000000)=true by simpa using h1)
   by_cases h2:-4000000000000000000≤d∧d≤4000000000000000000
   ·have k2:=hid (show decide (-4000000000000000000≤d∧d≤4000000000000000000)=true by simpa using h2)
    by_cases h3:d<0
    ·have HD3:=hid h3
     obtain ⟨g,hg⟩:∃ g,Nat.gcd (-n).natAbs (-d).toNat=g:=⟨_,rfl⟩
     have HG:=hid (fun (w':World) (x:Int) (hx:x=((-n).natAbs:Nat))=>show Calls Tryd.prog 69 #[.int .i64 x,.int .i64 (-d)] w' (Gives w' (.int .i64 (g:Nat))) by
      have:=specGcd (-n).natAbs (-d).toNat w' (by omega) (by omega)
      rwa [show (((-d).toNat:Nat):Int) = -d from by omega,← hx,hg] at this)
     have hg0:0<g:=by rw [← hg];exact Nat.gcd_pos_of_pos_right _ (by omega)
     have hgi:((g:Int) == 0)=false:=by simp;omega
     have HR:=hid (newRat_neg (by omega) h2.1 h1 hg);clear hg
     have hq1:=tdiv_i64 (n:=-n) (g:=g) (by omega)
     have hq2:=tdiv_i64 (n:=-d) (g:=g) (by omega)
     obtain ⟨a,ha⟩:∃ a,(-n).tdiv g=a:=⟨_,rfl⟩
     obtain ⟨b,hb⟩:∃ b,(-d).tdiv g=b:=⟨_,rfl⟩
     rw [ha] at hq1;rw [hb] at hq2;rw [ha,hb] at HR
     have hwn:IntKind.i64.wrap (-n) = -n:=IntWalk.i64_in _ (by omega)
     have hwd:IntKind.i64.wrap (-d) = -d:=IntWalk.i64_in _ (by omega)
     have hwn2:IntKind.i64.wrap (-(-n)) = -(-n):=IntWalk.i64_in _ (by omega)
     have HA:=hid (And.intro ha hb)
     have HI2:Hid (I64 a∧I64 b):=hid ⟨by unfold I64;omega,by unfold I64;omega⟩
     obtain ⟨ok,hok⟩:∃ ok,ratOK a b=ok:=⟨_,rfl⟩
     have HOK:=hid hok;clear hok
     cases ok with
     | true =>
      go_enter Tryd.func52,Tryd.ntmps52
      go_wp2_with fail
      refine (specIn n (-4000000000000000000) 4000000000000000000 _).mono ?_
      rintro e w1 ⟨rfl,m1,rfl⟩
      rw [k1.out]
      go_wp2_with fail
      refine (specIn d (-4000000000000000000) 4000000000000000000 _).mono ?_
      rintro e w1 ⟨rfl,m2,rfl⟩
      rw [k2.out]
      go_wp2_with fail
      all_goals
       refine (HG.out _ _ (by omega)).mono ?_
       rintro e w1 ⟨rfl,m4,rfl⟩
       go_wp2_with fail
       go_region
       go_wp2_with fail
       refine (specValidRat a b _ HI2.out.1 HI2.out.2).mono ?_
       rintro e w1 ⟨rfl,hb1⟩
       rw [HOK.out]
       have hz:=hb1.size
       simp at hz
       have hb2:Below w.heap.size w w1:=Below.trans (by repeat (first | with_reducible assumption | with_reducible exact Below.refl _ _ | with_reducible refine below_drewN ?_ _ | with_reducible refine below_drew1 ?_ | with_reducible refine Below.al ?_ (by first | with_reducible exact Nat.le_refl _ | omega | (simp;done) | (simp;omega) | exact Nat.le_refl _) _ | with_reducible refine Below.setCell ?_ (by first | with_reducible exact Nat.le_refl _ | omega | (simp;done) | (simp;omega) | exact Nat.le_refl _) _ | assumption | exact Below.refl _ _ | refine below_drewN ?_ _ | refine below_drew1 ?_ | refine Below.al ?_ (by first | with_reducible exact Nat.le_refl _ | omega | (simp;done) | (simp;omega) | exact Nat.le_refl _) _ | refine Below.setCell ?_ (by first | with_reducible exact Nat.le_refl _ | omega | (simp;done) | (simp;omega) | exact Nat.le_refl _) _)) (hb1.mono leA)
       have q0:w1.cell? ⟨w.heap.size,0,none⟩=some (.int .i64 0):=(by rw [(bcell hb1).1 _ _ (by first | omega | (simp;done) | (simp;omega))];first | with_reducible assumption | (go_simp;done) | assumption | (simp [World.cell?];done))
       have f0:w1.frozen? ⟨w.heap.size,0,none⟩=false:=(by rw [(bcell hb1).2 _ _ (by first | omega | (simp;done) | (simp;omega))];first | with_reducible assumption | (go_simp;done) | assumption | (simp [World.frozen?];done))
       have r0:w1.cell? ⟨w.heap.size+1,0,none⟩=some (.int .i64 a):=(by rw [(bcell hb1).1 _ _ (by first | omega | (simp;done) | (simp;omega))];first | with_reducible assumption | (go_simp;done) | assumption | (simp [World.cell?];done))
       have q1:w1.cell? ⟨w.heap.size,1,none⟩=some (.int .i64 0):=(by rw [(bcell hb1).1 _ _ (by first | omega | (simp;done) | (simp;omega))];first | with_reducible assumption | (go_simp;done) | assumption | (simp [World.cell?];done))
       have f1:w1.frozen? ⟨w.heap.size,1,none⟩=false:=(by rw [(bcell hb1).2 _ _ (by first | omega | (simp;done) | (simp;omega))];first | with_reducible assumption | (go_simp;done) | assumption | (simp [World.frozen?];done))
       have r1:w1.cell? ⟨w.heap.size+1,1,none⟩=some (.int .i64 b):=(by rw [(bcell hb1).1 _ _ (by first | omega | (simp;done) | (simp;omega))];first | with_reducible assumption | (go_simp;done) | assumption | (simp [World.cell?];done))
       have HB:=hid (And.intro hb1 hb2);clear hb1 hb2
       go_wp2_with fail
       refine bodyPost_ret (v:=ratB (a,b,true)) ?_ rfl ⟨by rw [HR.out,HOK.out];rfl,?_⟩
       ·simp [results,Tryd.results52,go_sem,q0,q1]
       ·have hb2:=HB.out.2
        exact (by repeat (first | with_reducible assumption | with_reducible exact Below.refl _ _ | with_reducible refine below_drewN ?_ _ | with_reducible refine below_drew1 ?_ | with_reducible refine Below.al ?_ (by first | with_reducible exact Nat.le_refl _ | omega | (simp;done) | (simp;omega) | exact Nat.le_refl _) _ | with_reducible refine Below.setCell ?_ (by first | with_reducible exact Nat.le_refl _ | omega | (simp;done) | (simp;omega) | exact Nat.le_refl _) _ | assumption | exact Below.refl _ _ | refine below_drewN ?_ _ | refine below_drew1 ?_ | refine Below.al ?_ (by first | with_reducible exact Nat.le_refl _ | omega | (simp;done) | (simp;omega) | exact Nat.le_refl _) _ | refine Below.setCell ?_ (by first | with_reducible exact Nat.le_refl _ | omega | (simp;done) | (simp;omega) | exact Nat.le_refl _) _))
     | false =>
      go_enter Tryd.func52,Tryd.ntmps52
      go_wp2_with fail
      refine (specIn n (-4000000000000000000) 4000000000000000000 _).mono ?_
      rintro e w1 ⟨rfl,m1,rfl⟩
      rw [k1.out]
      go_wp2_with fail
      refine (specIn d (-4000000000000000000) 4000000000000000000 _).mono ?_
      rintro e w1 ⟨rfl,m2,rfl⟩
      rw [k2.out]
      go_wp2_with fail
      all_goals
       refine (HG.out _ _ (by omega)).mono ?_
       rintro e w1 ⟨rfl,m4,rfl⟩
       go_wp2_with fail
       go_region
       go_wp2_with fail
       refine (specValidRat a b _ HI2.out.1 HI2.out.2).mono ?_
       rintro e w1 ⟨rfl,hb1⟩
       rw [HOK.out]
       have hz:=hb1.size
       simp at hz
       have hb2:Below w.heap.size w w1:=Below.trans (by repeat (first | with_reducible assumption | with_reducible exact Below.refl _ _ | with_reducible refine below_drewN ?_ _ | with_reducible refine below_drew1 ?_ | with_reducible refine Below.al ?_ (by first | with_reducible exact Nat.le_refl _ | omega | (simp;done) | (simp;omega) | exact Nat.le_refl _) _ | with_reducible refine Below.setCell ?_ (by first | with_reducible exact Nat.le_refl _ | omega | (simp;done) | (simp;omega) | exact Nat.le_refl _) _ | assumption | exact Below.refl _ _ | refine below_drewN ?_ _ | refine below_drew1 ?_ | refine Below.al ?_ (by first | with_reducible exact Nat.le_refl _ | omega | (simp;done) | (simp;omega) | exact Nat.le_refl _) _ | refine Below.setCell ?_ (by first | with_reducible exact Nat.le_refl _ | omega | (simp;done) | (simp;omega) | exact Nat.le_refl _) _)) (hb1.mono leA)
       have q0:w1.cell? ⟨w.heap.size,0,none⟩=some (.int .i64 0):=(by rw [(bcell hb1).1 _ _ (by first | omega | (simp;done) | (simp;omega))];first | with_reducible assumption | (go_simp;done) | assumption | (simp [World.cell?];done))
       have f0:w1.frozen? ⟨w.heap.size,0,none⟩=false:=(by rw [(bcell hb1).2 _ _ (by first | omega | (simp;done) | (simp;omega))];first | with_reducible assumption | (go_simp;done) | assumption | (simp [World.frozen?];done))
       have r0:w1.cell? ⟨w.heap.size+1,0,none⟩=some (.int .i64 a):=(by rw [(bcell hb1).1 _ _ (by first | omega | (simp;done) | (simp;omega))];first | with_reducible assumption | (go_simp;done) | assumption | (simp [World.cell?];done))
       have q1:w1.cell? ⟨w.heap.size,1,none⟩=some (.int .i64 0):=(by rw [(bcell hb1).1 _ _ (by first | omega | (simp;done) | (simp;omega))];first | with_reducible assumption | (go_simp;done) | assumption | (simp [World.cell?];done))
       have f1:w1.frozen? ⟨w.heap.size,1,none⟩=false:=(by rw [(bcell hb1).2 _ _ (by first | omega | (simp;done) | (simp;omega))];first | with_reducible assumption | (go_simp;done) | assumption | (simp [World.frozen?];done))
       have r1:w1.cell? ⟨w.heap.size+1,1,none⟩=some (.int .i64 b):=(by rw [(bcell hb1).1 _ _ (by first | omega | (simp;done) | (simp;omega))];first | with_reducible assumption | (go_simp;done) | assumption | (simp [World.cell?];done))
       have HB:=hid (And.intro hb1 hb2);clear hb1 hb2
       go_wp2_with fail
       refine bodyPost_ret (v:=ratB (0,0,false)) ?_ rfl ⟨by rw [HR.out,HOK.out];rfl,?_⟩
       ·simp [results,Tryd.results52,go_sem,q0,q1]
       ·have hb2:=HB.out.2
        exact (by repeat (first | with_reducible assumption | with_reducible exact Below.refl _ _ | with_reducible refine below_drewN ?_ _ | with_reducible refine below_drew1 ?_ | with_reducible refine Below.al ?_ (by first | with_reducible exact Nat.le_refl _ | omega | (simp;done) | (simp;omega) | exact Nat.le_refl _) _ | with_reducible refine Below.setCell ?_ (by first | with_reducible exact Nat.le_refl _ | omega | (simp;done) | (simp;omega) | exact Nat.le_refl _) _ | assumption | exact Below.refl _ _ | refine below_drewN ?_ _ | refine below_drew1 ?_ | refine Below.al ?_ (by first | with_reducible exact Nat.le_refl _ | omega | (simp;done) | (simp;omega) | exact Nat.le_refl _) _ | refine Below.setCell ?_ (by first | with_reducible exact Nat.le_refl _ | omega | (simp;done) | (simp;omega) | exact Nat.le_refl _) _))
    ·have HD3:=hid h3
     obtain ⟨g,hg⟩:∃ g,Nat.gcd (n).natAbs (d).toNat=g:=⟨_,rfl⟩
     have HG:=hid (fun (w':World) (x:Int) (hx:x=((n).natAbs:Nat))=>show Calls Tryd.prog 69 #[.int .i64 x,.int .i64 (d)] w' (Gives w' (.int .i64 (g:Nat))) by
      have:=specGcd (n).natAbs (d).toNat w' (by omega) (by omega)
      rwa [show (((d).toNat:Nat):Int)=d from by omega,← hx,hg] at this)
     have hg0:0<g:=by rw [← hg];exact Nat.gcd_pos_of_pos_right _ (by omega)
     have hgi:((g:Int) == 0)=false:=by simp;omega
     have HR:=hid (newRat_pos (by omega) h2.2 h1 hg);clear hg
     have hq1:=tdiv_i64 (n:=n) (g:=g) (by omega)
     have hq2:=tdiv_i64 (n:=d) (g:=g) (by omega)
     obtain ⟨a,ha⟩:∃ a,(n).tdiv g=a:=⟨_,rfl⟩
     obtain ⟨b,hb⟩:∃ b,(d).tdiv g=b:=⟨_,rfl⟩
     rw [ha] at hq1;rw [hb] at hq2;rw [ha,hb] at HR
     have hwn2:IntKind.i64.wrap (-(n)) = -(n):=IntWalk.i64_in _ (by omega)
     have HA:=hid (And.intro ha hb)
     have HI2:Hid (I64 a∧I64 b):=hid ⟨by unfold I64;omega,by unfold I64;omega⟩
     obtain ⟨ok,hok⟩:∃ ok,ratOK a b=ok:=⟨_,rfl⟩
     have HOK:=hid hok;clear hok
     cases ok with
     | true =>
      go_enter Tryd.func52,Tryd.ntmps52
      go_wp2_with fail
      refine (specIn n (-4000000000000000000) 4000000000000000000 _).mono ?_
      rintro e w1 ⟨rfl,m1,rfl⟩
      rw [k1.out]
      go_wp2_with fail
      refine (specIn d (-4000000000000000000) 4000000000000000000 _).mono ?_
      rintro e w1 ⟨rfl,m2,rfl⟩
      rw [k2.out]
      go_wp2_with fail
      all_goals
       refine (HG.out _ _ (by omega)).mono ?_
       rintro e w1 ⟨rfl,m4,rfl⟩
       go_wp2_with fail
       go_region
       go_wp2_with fail
       refine (specValidRat a b _ HI2.out.1 HI2.out.2).mono ?_
       rintro e w1 ⟨rfl,hb1⟩
       rw [HOK.out]
       have hz:=hb1.size
       simp at hz
       have hb2:Below w.heap.size w w1:=Below.trans (by repeat (first | with_reducible assumption | with_reducible exact Below.refl _ _ | with_reducible refine below_drewN ?_ _ | with_reducible refine below_drew1 ?_ | with_reducible refine Below.al ?_ (by first | with_reducible exact Nat.le_refl _ | omega | (simp;done) | (simp;omega) | exact Nat.le_refl _) _ | with_reducible refine Below.setCell ?_ (by first | with_reducible exact Nat.le_refl _ | omega | (simp;done) | (simp;omega) | exact Nat.le_refl _) _ | assumption | exact Below.refl _ _ | refine below_drewN ?_ _ | refine below_drew1 ?_ | refine Below.al ?_ (by first | with_reducible exact Nat.le_refl _ | omega | (simp;done) | (simp;omega) | exact Nat.le_refl _) _ | refine Below.setCell ?_ (by first | with_reducible exact Nat.le_refl _ | omega | (simp;done) | (simp;omega) | exact Nat.le_refl _) _)) (hb1.mono leA)
       have q0:w1.cell? ⟨w.heap.size,0,none⟩=some (.int .i64 0):=(by rw [(bcell hb1).1 _ _ (by first | omega | (simp;done) | (simp;omega))];first | with_reducible assumption | (go_simp;done) | assumption | (simp [World.cell?];done))
       have f0:w1.frozen? ⟨w.heap.size,0,none⟩=false:=(by rw [(bcell hb1).2 _ _ (by first | omega | (simp;done) | (simp;omega))];first | with_reducible assumption | (go_simp;done) | assumption | (simp [World.frozen?];done))
       have r0:w1.cell? ⟨w.heap.size+1,0,none⟩=some (.int .i64 a):=(by rw [(bcell hb1).1 _ _ (by first | omega | (simp;done) | (simp;omega))];first | with_reducible assumption | (go_simp;done) | assumption | (simp [World.cell?];done))
       have q1:w1.cell? ⟨w.heap.size,1,none⟩=some (.int .i64 0):=(by rw [(bcell hb1).1 _ _ (by first | omega | (simp;done) | (simp;omega))];first | with_reducible assumption | (go_simp;done) | assumption | (simp [World.cell?];done))
       have f1:w1.frozen? ⟨w.heap.size,1,none⟩=false:=(by rw [(bcell hb1).2 _ _ (by first | omega | (simp;done) | (simp;omega))];first | with_reducible assumption | (go_simp;done) | assumption | (simp [World.frozen?];done))
       have r1:w1.cell? ⟨w.heap.size+1,1,none⟩=some (.int .i64 b):=(by rw [(bcell hb1).1 _ _ (by first | omega | (simp;done) | (simp;omega))];first | with_reducible assumption | (go_simp;done) | assumption | (simp [World.cell?];done))
       have HB:=hid (And.intro hb1 hb2);clear hb1 hb2
       go_wp2_with fail
       refine bodyPost_ret (v:=ratB (a,b,true)) ?_ rfl ⟨by rw [HR.out,HOK.out];rfl,?_⟩
       ·simp [results,Tryd.results52,go_sem,q0,q1]
       ·have hb2:=HB.out.2
        exact (by repeat (first | with_reducible assumption | with_reducible exact Below.refl _ _ | with_reducible refine below_drewN ?_ _ | with_reducible refine below_drew1 ?_ | with_reducible refine Below.al ?_ (by first | with_reducible exact Nat.le_refl _ | omega | (simp;done) | (simp;omega) | exact Nat.le_refl _) _ | with_reducible refine Below.setCell ?_ (by first | with_reducible exact Nat.le_refl _ | omega | (simp;done) | (simp;omega) | exact Nat.le_refl _) _ | assumption | exact Below.refl _ _ | refine below_drewN ?_ _ | refine below_drew1 ?_ | refine Below.al ?_ (by first | with_reducible exact Nat.le_refl _ | omega | (simp;done) | (simp;omega) | exact Nat.le_refl _) _ | refine Below.setCell ?_ (by first | with_reducible exact Nat.le_refl _ | omega | (simp;done) | (simp;omega) | exact Nat.le_refl _) _))
     | false =>
      go_enter Tryd.func52,Tryd.ntmps52
      go_wp2_with fail
      refine (specIn n (-4000000000000000000) 4000000000000000000 _).mono ?_
      rintro e w1 ⟨rfl,m1,rfl⟩
      rw [k1.out]
      go_wp2_with fail
      refine (specIn d (-4000000000000000000) 4000000000000000000 _).mono ?_
      rintro e w1 ⟨rfl,m2,rfl⟩
      rw [k2.out]
      go_wp2_with fail
      all_goals
       refine (HG.out _ _ (by omega)).mono ?_
       rintro e w1 ⟨rfl,m4,rfl⟩
       go_wp2_with fail
       go_region
       go_wp2_with fail
       refine (specValidRat a b _ HI2.out.1 HI2.out.2).mono ?_
       rintro e w1 ⟨rfl,hb1⟩
       rw [HOK.out]
       have hz:=hb1.size
       simp at hz
       have hb2:Below w.heap.size w w1:=Below.trans (by repeat (first | with_reducible assumption | with_reducible exact Below.refl _ _ | with_reducible refine below_drewN ?_ _ | with_reducible refine below_drew1 ?_ | with_reducible refine Below.al ?_ (by first | with_reducible exact Nat.le_refl _ | omega | (simp;done) | (simp;omega) | exact Nat.le_refl _) _ | with_reducible refine Below.setCell ?_ (by first | with_reducible exact Nat.le_refl _ | omega | (simp;done) | (simp;omega) | exact Nat.le_refl _) _ | assumption | exact Below.refl _ _ | refine below_drewN ?_ _ | refine below_drew1 ?_ | refine Below.al ?_ (by first | with_reducible exact Nat.le_refl _ | omega | (simp;done) | (simp;omega) | exact Nat.le_refl _) _ | refine Below.setCell ?_ (by first | with_reducible exact Nat.le_refl _ | omega | (simp;done) | (simp;omega) | exact Nat.le_refl _) _)) (hb1.mono leA)
       have q0:w1.cell? ⟨w.heap.size,0,none⟩=some (.int .i64 0):=(by rw [(bcell hb1).1 _ _ (by first | omega | (simp;done) | (simp;omega))];first | with_reducible assumption | (go_simp;done) | assumption | (simp [World.cell?];done))
       have f0:w1.frozen? ⟨w.heap.size,0,none⟩=false:=(by rw [(bcell hb1).2 _ _ (by first | omega | (simp;done) | (simp;omega))];first | with_reducible assumption | (go_simp;done) | assumption | (simp [World.frozen?];done))
       have r0:w1.cell? ⟨w.heap.size+1,0,none⟩=some (.int .i64 a):=(by rw [(bcell hb1).1 _ _ (by first | omega | (simp;done) | (simp;omega))];first | with_reducible assumption | (go_simp;done) | assumption | (simp [World.cell?];done))
       have q1:w1.cell? ⟨w.heap.size,1,none⟩=some (.int .i64 0):=(by rw [(bcell hb1).1 _ _ (by first | omega | (simp;done) | (simp;omega))];first | with_reducible assumption | (go_simp;done) | assumption | (simp [World.cell?];done))
       have f1:w1.frozen? ⟨w.heap.size,1,none⟩=false:=(by rw [(bcell hb1).2 _ _ (by first | omega | (simp;done) | (simp;omega))];first | with_reducible assumption | (go_simp;done) | assumption | (simp [World.frozen?];done))
       have r1:w1.cell? ⟨w.heap.size+1,1,none⟩=some (.int .i64 b):=(by rw [(bcell hb1).1 _ _ (by first | omega | (simp;done) | (simp;omega))];first | with_reducible assumption | (go_simp;done) | assumption | (simp [World.cell?];done))
       have HB:=hid (And.intro hb1 hb2);clear hb1 hb2
       go_wp2_with fail
       refine bodyPost_ret (v:=ratB (0,0,false)) ?_ rfl ⟨by rw [HR.out,HOK.out];rfl,?_⟩
       ·simp [results,Tryd.results52,go_sem,q0,q1]
       ·have hb2:=HB.out.2
        exact (by repeat (first | with_reducible assumption | with_reducible exact Below.refl _ _ | with_reducible refine below_drewN ?_ _ | with_reducible refine below_drew1 ?_ | with_reducible refine Below.al ?_ (by first | with_reducible exact Nat.le_refl _ | omega | (simp;done) | (simp;omega) | exact Nat.le_refl _) _ | with_reducible refine Below.setCell ?_ (by first | with_reducible exact Nat.le_refl _ | omega | (simp;done) | (simp;omega) | exact Nat.le_refl _) _ | assumption | exact Below.refl _ _ | refine below_drewN ?_ _ | refine below_drew1 ?_ | refine Below.al ?_ (by first | with_reducible exact Nat.le_refl _ | omega | (simp;done) | (simp;omega) | exact Nat.le_refl _) _ | refine Below.setCell ?_ (by first | with_reducible exact Nat.le_refl _ | omega | (simp;done) | (simp;omega) | exact Nat.le_refl _) _))
   ·have k2:=hid (show decide (-4000000000000000000≤d∧d≤4000000000000000000)=false by simpa using h2)
    have HF:=hid (newRat_no (n:=n) (.inr (.inr h2)));clear h1 h2
    go_enter Tryd.func52,Tryd.ntmps52
    go_wp2_with fail
    refine (specIn n (-4000000000000000000) 4000000000000000000 _).mono ?_
    rintro e w1 ⟨rfl,m1,rfl⟩
    rw [k1.out]
    go_wp2_with fail
    refine (specIn d (-4000000000000000000) 4000000000000000000 _).mono ?_
    rintro e w1 ⟨rfl,m2,rfl⟩
    rw [k2.out]
    go_wp2_with fail
    refine bodyPost_ret (v:=ratB (0,0,false)) (by simp [results,Tryd.results52,go_sem]) rfl ⟨by rw [HF.out],(by repeat (first | with_reducible assumption | with_reducible exact Below.refl _ _ | with_reducible refine below_drewN ?_ _ | with_reducible refine below_drew1 ?_ | with_reducible refine Below.al ?_ (by first | with_reducible exact Nat.le_refl _ | omega | (simp;done) | (simp;omega) | exact Nat.le_refl _) _ | with_reducible refine Below.setCell ?_ (by first | with_reducible exact Nat.le_refl _ | omega | (simp;done) | (simp;omega) | exact Nat.le_refl _) _ | assumption | exact Below.refl _ _ | refine below_drewN ?_ _ | refine below_drew1 ?_ | refine Below.al ?_ (by first | with_reducible exact Nat.le_refl _ | omega | (simp;done) | (simp;omega) | exact Nat.le_refl _) _ | refine Below.setCell ?_ (by first | with_reducible exact Nat.le_refl _ | omega | (simp;done) | (simp;omega) | exact Nat.le_refl _) _))⟩
  ·have k1:=hid (show decide (-4000000000000000000≤n∧n≤4000000000000000000)=false by simpa using h1)
   have HF:=hid (newRat_no (d:=d) (.inr (.inl h1)));clear h1
   go_enter Tryd.func52,Tryd.ntmps52
   go_wp2_with fail
   refine (specIn n (-4000000000000000000) 4000000000000000000 _).mono ?_
   rintro e w1 ⟨rfl,m1,rfl⟩
   rw [k1.out]
   go_wp2_with fail
   refine bodyPost_ret (v:=ratB (0,0,false)) (by simp [results,Tryd.results52,go_sem]) rfl ⟨by rw [HF.out],(by repeat (first | with_reducible assumption | with_reducible exact Below.refl _ _ | with_reducible refine below_drewN ?_ _ | with_reducible refine below_drew1 ?_ | with_reducible refine Below.al ?_ (by first | with_reducible exact Nat.le_refl _ | omega | (simp;done) | (simp;omega) | exact Nat.le_refl _) _ | with_reducible refine Below.setCell ?_ (by first | with_reducible exact Nat.le_refl _ | omega | (simp;done) | (simp;omega) | exact Nat.le_refl _) _ | assumption | exact Below.refl _ _ | refine below_drewN ?_ _ | refine below_drew1 ?_ | refine Below.al ?_ (by first | with_reducible exact Nat.le_refl _ | omega | (simp;done) | (simp;omega) | exact Nat.le_refl _) _ | refine Below.setCell ?_ (by first | with_reducible exact Nat.le_refl _ | omega | (simp;done) | (simp;omega) | exact Nat.le_refl _) _))⟩
end Go.Proofs.YtkohkoiegmcghaaDoor
namespace Go.Proofs.YtkohkoiegmcghaaDoor
set_option linter.unusedSimpArgs false
set_option linter.unusedVariables false
open Go.RowKit
theorem mul_bd {x y:Int} (h1:-1000000000≤x∧x≤1000000000) (h2:-1000000000≤y∧y≤1000000000):-1000000000000000000≤x*y∧x*y≤1000000000000000000:=by
 have h:(x*y).natAbs≤1000000000*1000000000:=by rw [Int.natAbs_mul];exact Nat.mul_le_mul (by omega) (by omega)
 omega
def bothOK (an ad bn bd:Int):Bool:=ratOK an ad && ratOK bn bd
def addR (an ad bn bd:Int):Int×Int×Bool:=if bothOK an ad bn bd=true then newRat (an*bd+bn*ad) (ad*bd) else (0,0,false)
def mulR (an ad bn bd:Int):Int×Int×Bool:=if bothOK an ad bn bd=true then newRat (an*bn) (ad*bd) else (0,0,false)
def divR (an ad bn bd:Int):Int×Int×Bool:=if bothOK an ad bn bd=true then newRat (an*bd) (ad*bn) else (0,0,false)
def subR (an ad bn bd:Int):Int×Int×Bool:=addR an ad (-bn) bd
def cmpRat (an ad bn bd:Int):Int:=if bothOK an ad bn bd=true then cmpI (an*bd) (bn*ad) else 0
theorem ratOK_b {n d:Int} (h:ratOK n d=true):(-1000000000≤n∧n≤1000000000)∧(-1000000000≤d∧d≤1000000000)∧0<d:=by
 obtain ⟨h1,h2,_⟩:=ratOK_out h
 omega
theorem bothOK_out {an ad bn bd:Int} (h:bothOK an ad bn bd=true):ratOK an ad=true∧ratOK bn bd=true:=by simpa [bothOK] using h
theorem ops_bd {an ad bn bd:Int} (h:bothOK an ad bn bd=true):(-1000000000000000000≤an*bd∧an*bd≤1000000000000000000)∧(-1000000000000000000≤bn*ad∧bn*ad≤1000000000000000000)∧(-1000000000000000000≤ad*bd∧ad*bd≤1000000000000000000)∧(-1000000000000000000≤an*bn∧an*bn≤1000000000000000000)∧(-1000000000000000000≤ad*bn∧ad*bn≤1000000000000000000):=by
 obtain ⟨h1,h2⟩:=bothOK_out h
 have k1:=ratOK_b h1;have k2:=ratOK_b h2
 exact ⟨mul_bd k1.1 k2.2.1,mul_bd k2.1 k1.2.1,mul_bd k1.2.1 k2.2.1,mul_bd k1.1 k2.1,mul_bd k1.2.1 k2.1⟩
theorem cmpRat_no {an ad bn bd:Int} (h:bothOK an ad bn bd=false):cmpRat an ad bn bd=0:=by unfold cmpRat;rw [if_neg (by rw [h];decide)]
theorem cmpRat_yes {an ad bn bd:Int} (h:bothOK an ad bn bd=true):cmpRat an ad bn bd=cmpI (an*bd) (bn*ad):=by unfold cmpRat;rw [if_pos h]
theorem cmpI_lt {x y:Int} (h:x<y):cmpI x y = -1:=by unfold cmpI;rw [if_pos h]
theorem cmpI_gt {x y:Int} (h:y<x):cmpI x y=1:=by unfold cmpI;rw [if_neg (by omega),if_pos h]
theorem cmpI_eq {x y:Int} (h:¬ x<y) (h':¬ y<x):cmpI x y=0:=by unfold cmpI;rw [if_neg h,if_neg h']
end Go.Proofs.YtkohkoiegmcghaaDoor
