/- Lemmas for the proof of FnExactMaximumPacking, part 9 of 27: no condition of their own. -/
import Derived.Test.YteiaofkgbdlpoaaDoorJ3
import Derived.Test.YteiaofkgbdlpoaaDoorJ1
import Derived.Test.YteiaofkgbdlpoaaDoorJ2
import Derived.Test.YteiaofkgbdlpoaaDoorJ8
import Derived.Deep.DeepCutAuto
import Derived.Deep.CutBlock
namespace Go.Proofs.YteiaofkgbdlpoaaDoor
set_option linter.unusedSimpArgs false
set_option linter.unusedVariables false
open Go.RowKit
structure RatD where
 num:Int
 den:Int
def ratR:Rep RatD:=fun _ _ _ _ cs x=>cs=[.int .i64 x.num,.int .i64 x.den]∧I64 x.num∧I64 x.den
theorem ratRep:RepOK ratR:=⟨fun h _=>h,fun h _ _=>h,fun h=>h⟩
abbrev RatsA:=SlA 2 ratR
def qx (xs:List RatD) (i:Nat):RatD:=xs.getD i ⟨0,0⟩
theorem qx_lt {xs:List RatD} {i:Nat} (h:i<xs.length):qx xs i=xs[i]:=by simp [qx,h]
theorem qx_get {xs:List RatD} {i:Nat} (h:i<xs.length):xs[i]? = some (qx xs i):=by rw [qx_lt h];simp [h]
theorem ratsSome {fz:Bool} {lo hi:Nat} {w:World} {a:Option Addr} {n c:Nat} {xs:List RatD} (h:RatsA fz lo hi w a n c xs) (hn:0<n):∃ b off,a=some ⟨b,off,none⟩:=by
 obtain ⟨b,off,ha,_⟩:=h.open hn
 exact ⟨b,off,ha⟩
theorem ratsAt {fz:Bool} {lo hi:Nat} {w:World} {b off n c:Nat} {xs:List RatD} (h:RatsA fz lo hi w (some ⟨b,off,none⟩) n c xs) {i:Nat} (hi':i<n) :
 lo≤b∧b<hi∧I64 (qx xs i).num∧I64 (qx xs i).den∧w.cell? ⟨b,off+i*2,none⟩=some (.int .i64 (qx xs i).num)∧w.cell? ⟨b,off+i*2+1,none⟩=some (.int .i64 (qx xs i).den) ∧
  (fz=true→w.frozen? ⟨b,off+i*2,none⟩=false∧w.frozen? ⟨b,off+i*2+1,none⟩=false):=by
 obtain ⟨b',off',ha,hl,hb,hc⟩:=h.open (by omega)
 simp only [Option.some.injEq,Addr.mk.injEq,and_true] at ha
 obtain ⟨rfl,rfl⟩:=ha
 obtain ⟨cs,x,g1,g2,⟨rfl,g3,g5⟩,g4⟩:=hc i hi'
 have k0:=g4 0 (by omega)
 have k1:=g4 1 (by omega)
 have hx:qx xs i=x:=by simp [qx,g2]
 rw [hx]
 exact ⟨hl,hb,g3,g5,by simpa using k0.1,by simpa using k1.1,fun hf=>⟨by simpa using k0.2 hf,by simpa using k1.2 hf⟩⟩
theorem ratsMk {fz:Bool} {lo hi:Nat} {w:World} {b off n c:Nat} {xs:List RatD} (hl:xs.length=n) (hnc:n≤c) (hcm:c≤maxLen) (h1:lo≤b) (h2:b<hi)
 (h:∀ i,i<n→I64 (qx xs i).num∧I64 (qx xs i).den∧w.cell? ⟨b,off+i*2,none⟩=some (.int .i64 (qx xs i).num)∧w.cell? ⟨b,off+i*2+1,none⟩=some (.int .i64 (qx xs i).den)∧(fz=true→w.frozen? ⟨b,off+i*2,none⟩=false∧w.frozen? ⟨b,off+i*2+1,none⟩=false)) :
 RatsA fz lo hi w (some ⟨b,off,none⟩) n c xs:=by
 refine ⟨hl,hnc,hcm,fun _=>⟨b,off,rfl,h1,h2,fun i hi=>?_⟩,fun h=>(by cases h)⟩
 obtain ⟨g1,g2,g3,g4,g5⟩:=h i hi
 refine ⟨[.int .i64 (qx xs i).num,.int .i64 (qx xs i).den],qx xs i,rfl,qx_get (by omega),⟨rfl,g1,g2⟩,fun j hj=>?_⟩
 rcases (by omega:j=0∨j=1) with rfl | rfl
 ·exact ⟨by simpa using g3,fun hf=>by simpa using (g5 hf).1⟩
 ·exact ⟨by simpa using g4,fun hf=>(g5 hf).2⟩
def flatR:List RatD→List Value
 | []=>[]
 | x :: xs=>.int .i64 x.num :: .int .i64 x.den :: flatR xs
theorem flatR_len (xs:List RatD):(flatR xs).length=xs.length*2:=by
 induction xs with
 | nil=>rfl
 | cons x xs ih=>simp [flatR,ih];omega
theorem flatR_at {xs:List RatD} {i:Nat} (h:i<xs.length):(flatR xs)[i*2]? = some (.int .i64 (qx xs i).num)∧(flatR xs)[i*2+1]? = some (.int .i64 (qx xs i).den):=by
 induction xs generalizing i with
 | nil=>simp at h
 | cons x xs ih =>
  cases i with
  | zero=>simp [flatR,qx]
  | succ i =>
   have:=ih (i:=i) (by simpa using h)
   have e:(i+1)*2=i*2+1+1:=by omega
   have hq:qx (x :: xs) (i+1)=qx xs i:=by simp [qx]
   rw [hq,e]
   simpa [flatR] using this
theorem flatR_one (xs:List RatD):∀ u∈flatR xs,u.oneCell'=true:=by
 induction xs with
 | nil=>intro u hu;simp [flatR] at hu
 | cons x xs ih =>
  intro u hu
  simp only [flatR,List.mem_cons] at hu
  rcases hu with rfl | rfl | hu
  ·rfl
  ·rfl
  ·exact ih u hu
def RatsOK (xs:List RatD):Prop:=∀ x∈xs,I64 x.num∧I64 x.den
theorem RatsOK.at {xs:List RatD} (h:RatsOK xs) {i:Nat} (hi:i<xs.length):I64 (qx xs i).num∧I64 (qx xs i).den:=by rw [qx_lt hi];exact h _ (List.getElem_mem _)
theorem RatsOK.app {xs ys:List RatD} (h:RatsOK xs) (h':RatsOK ys):RatsOK (xs ++ ys):=fun x hx=>(List.mem_append.1 hx).elim (h x) (h' x)
def OwnR (base:Nat) (w:World) (a:Option Addr) (n c:Nat) (xs:List RatD):Prop:=OwnF 43 2 base w a n c (flatR xs)∧RatsOK xs
theorem OwnR.len {base:Nat} {w:World} {a:Option Addr} {n c:Nat} {xs:List RatD} (h:OwnR base w a n c xs):xs.length=n:=by
 have:=h.1.len;rw [flatR_len] at this;omega
theorem OwnR.keep {base:Nat} {w w':World} {a:Option Addr} {n c:Nat} {xs:List RatD} (h:OwnR base w a n c xs) (hk:Keeps base w.heap.size w w'):OwnR base w' a n c xs:=⟨h.1.keep hk,h.2⟩
theorem OwnR.drewN {base:Nat} {w:World} {a:Option Addr} {n c:Nat} {xs:List RatD} (h:OwnR base w a n c xs) (m:Nat):OwnR base (w.drewN m) a n c xs:=h
theorem OwnR.alloc {base:Nat} {w:World} {a:Option Addr} {n c:Nat} {xs:List RatD} (h:OwnR base w a n c xs) (o:Obj):OwnR base (w.alloc o) a n c xs:=⟨h.1.alloc o,h.2⟩
theorem OwnR.low {base base':Nat} {w:World} {a:Option Addr} {n c:Nat} {xs:List RatD} (h:OwnR base w a n c xs) (hb:base'≤base):OwnR base' w a n c xs:=⟨h.1.low hb,h.2⟩
theorem RatsA.flat {fz:Bool} {lo hi:Nat} {w:World} {a:Option Addr} {n c:Nat} {xs:List RatD} (h:RatsA fz lo hi w a n c xs):FlatA 2 lo hi w a n c (flatR xs):=by
 have hl:=h.len
 refine ⟨by rw [flatR_len,hl],h.2.1,h.2.2.1,flatR_one xs,fun hn=>?_,h.2.2.2.2⟩
 obtain ⟨b,off,rfl⟩:=ratsSome h hn
 have h0:=ratsAt h hn
 refine ⟨b,off,rfl,h0.1,h0.2.1,fun i u hu=>?_⟩
 have hi2:i<n*2:=by have:=(List.getElem?_eq_some_iff.1 hu).1;rw [flatR_len,hl] at this;exact this
 obtain ⟨j,hj⟩:∃ j,i=j*2∨i=j*2+1:=⟨i / 2,by omega⟩
 have hjn:j<n:=by omega
 have hx:=flatR_at (xs:=xs) (i:=j) (by omega)
 have ha:=ratsAt h hjn
 rcases hj with rfl | rfl
 ·rw [hx.1] at hu;cases hu;exact ha.2.2.2.2.1
 ·rw [hx.2] at hu;cases hu;rw [← Nat.add_assoc];exact ha.2.2.2.2.2.1
def matR:Rep (List RatD):=fun fz lo hi w cs xs=>∃ a n c,cs=[.slice a n c]∧RatsA fz lo hi w a n c xs
theorem matRep:RepOK matR :=
 ⟨fun ⟨a,n,c,h1,h2⟩ hk=>⟨a,n,c,h1,SlA.keep ratRep h2 hk⟩,fun ⟨a,n,c,h1,h2⟩ g1 g2=>⟨a,n,c,h1,SlA.wide ratRep h2 g1 g2⟩,fun ⟨a,n,c,h1,h2⟩=>⟨a,n,c,h1,SlA.read ratRep h2⟩⟩
abbrev MatA:=SlA 1 matR
def mx (xss:List (List RatD)) (i:Nat):List RatD:=xss.getD i []
theorem mx_lt {xss:List (List RatD)} {i:Nat} (h:i<xss.length):mx xss i=xss[i]:=by simp [mx,h]
section
variable {fz:Bool} {lo hi B lo' hi':Nat} {w w':World} {a:Option Addr} {n c:Nat} {xs:List RatD} {xss:List (List RatD)}
theorem beRats (h:RatsA fz lo hi w a n c xs) (hb:Below B w w') (hh:hi≤B):RatsA fz lo hi w' a n c xs:=SlA.be ratRep h hb hh
theorem kpRats (h:RatsA fz lo hi w a n c xs) (hb:Keeps lo hi w w'):RatsA fz lo hi w' a n c xs:=SlA.keep ratRep h hb
theorem wdRats (h:RatsA fz lo hi w a n c xs) (hl:lo'≤lo):RatsA fz lo' hi w a n c xs:=SlA.wide ratRep h hl (Nat.le_refl _)
theorem hgRats (h:RatsA fz lo hi w a n c xs) (hl:hi≤hi'):RatsA fz lo hi' w a n c xs:=SlA.wide ratRep h (Nat.le_refl _) hl
end
end Go.Proofs.YteiaofkgbdlpoaaDoor
namespace Go.Proofs.YteiaofkgbdlpoaaDoor
set_option linter.unusedSimpArgs false
set_option linter.unusedVariables false
open Go.RowKit
def ratDV (x:RatD):DV:=.agg [.int x.num,.int x.den]
abbrev ratsD (xs:List RatD):DV:=.sl 2 (xs.map ratDV)
theorem cxs_two {C:Nat→Nat→Prop} {w:World} {x y:Int} {us:List Value}:CXs C w [.int x,.int y] us↔us=[.int .i64 x,.int .i64 y]∧I64 x∧I64 y:=by
 constructor
 ·rintro ⟨u,t,rfl,⟨rfl,h1⟩,u2,t2,rfl,⟨rfl,h2⟩,rfl⟩;exact ⟨rfl,h1,h2⟩
 ·rintro ⟨rfl,h1,h2⟩;exact ⟨[.int .i64 x],_,rfl,⟨rfl,h1⟩,[.int .i64 y],[],rfl,⟨rfl,h2⟩,rfl⟩
end Go.Proofs.YteiaofkgbdlpoaaDoor
namespace Go.Proofs.YteiaofkgbdlpoaaDoor
set_option linter.unusedSimpArgs false
set_option linter.unusedVariables false
open Go.RowKit
theorem gcd_turn {p q:Nat}:Nat.gcd q (p % q)=Nat.gcd p q:=by rw [Nat.gcd_comm q,← Nat.gcd_rec,Nat.gcd_comm]
set_option maxHeartbeats 800000 in
theorem implGcd (x y:Nat) (w:World) (hx:x≤4000000000000000000) (hy:y≤4000000000000000000) :
 Calls Tryd.prog 98 #[.int .i64 x,.int .i64 y] w (Gives w (.int .i64 (Nat.gcd x y:Nat))):=by
 go_enter Tryd.func98,Tryd.ntmps98
 go_wp2
 go_loopw [0,1] (fun a b wr=>∃ p q:Nat,a=.int .i64 p∧b=.int .i64 q∧p≤4000000000000000000∧q≤4000000000000000000∧Hid (Nat.gcd p q=Nat.gcd x y)∧∃ m,wr=w.drewN m) (fun _ b _=>(intOf b).toNat)
 case atStart=>exact ⟨x,y,rfl,rfl,hx,hy,hid rfl,0,rfl⟩
 case round =>
  obtain ⟨p,q,rfl,rfl,hp,hq,HG,m,rfl⟩:=hrel
  by_cases h0:q=0
  ·subst h0
   have HE:=hid (show Nat.gcd x y=p by rw [← HG.out];simp)
   go_wp2
   go_ret
   exact ⟨by rw [HE.out];rfl,by first | exact ⟨_,rfl⟩ | exact ⟨_,dd⟩⟩
  ·have hlt:p % q<q:=Nat.mod_lt _ (by omega)
   have HG2:=hid (show Nat.gcd q (p % q)=Nat.gcd x y by rw [gcd_turn];exact HG.out)
   go_wp2
   go_quiet (fail)
   go_wp2
   go_roundw
   case rel=>exact ⟨q,p % q,rfl,by go_num,hq,by omega,HG2,by first | exact ⟨_,rfl⟩ | exact ⟨_,dd⟩⟩
   case measure=>simp [intOf];omega
set_option maxHeartbeats 800000 in
theorem specGcd (x y:Nat) (w:World) (hx:x≤4000000000000000000) (hy:y≤4000000000000000000) :
 Calls Tryd.prog 93 #[.int .i64 x,.int .i64 y] w (Gives w (.int .i64 (Nat.gcd x y:Nat))):=by
 go_enter Tryd.func93,Tryd.ntmps93
 go_wp2
 go_loopw [0,1] (fun a b wr=>∃ p q:Nat,a=.int .i64 p∧b=.int .i64 q∧p≤4000000000000000000∧q≤4000000000000000000∧Hid (Nat.gcd p q=Nat.gcd x y)∧∃ m,wr=w.drewN m) (fun _ b _=>(intOf b).toNat)
 case atStart=>exact ⟨x,y,rfl,rfl,hx,hy,hid rfl,0,rfl⟩
 case round =>
  obtain ⟨p,q,rfl,rfl,hp,hq,HG,m,rfl⟩:=hrel
  by_cases h0:q=0
  ·subst h0
   have HE:=hid (show Nat.gcd x y=p by rw [← HG.out];simp)
   go_wp2
   go_ret
   exact ⟨by rw [HE.out];rfl,by first | exact ⟨_,rfl⟩ | exact ⟨_,dd⟩⟩
  ·have hlt:p % q<q:=Nat.mod_lt _ (by omega)
   have HG2:=hid (show Nat.gcd q (p % q)=Nat.gcd x y by rw [gcd_turn];exact HG.out)
   go_wp2
   go_roundw
   case rel=>exact ⟨q,p % q,rfl,by go_num,hq,by omega,HG2,by first | exact ⟨_,rfl⟩ | exact ⟨_,dd⟩⟩
   case measure=>simp [intOf];omega
end Go.Proofs.YteiaofkgbdlpoaaDoor
namespace Go.Proofs.YteiaofkgbdlpoaaDoor
set_option linter.unusedSimpArgs false
set_option linter.unusedVariables false
open Go.RowKit
theorem max_abs (x:Int):max x (-x)=(x.natAbs:Int):=by omega
set_option maxHeartbeats 800000 in
theorem implAbs (x:Int) (w:World) (h:-4000000000000000000≤x∧x≤4000000000000000000):Calls Tryd.prog 99 #[.int .i64 x] w (Gives w (.int .i64 (x.natAbs:Nat))):=by
 have hw:IntKind.i64.wrap (-x) = -x:=IntWalk.i64_in _ (by omega)
 have HM:=hid (max_abs x)
 go_enter Tryd.func99,Tryd.ntmps99
 go_wp2
 all_goals
  go_ret
  exact ⟨ret_int (by omega),by first | exact ⟨0,rfl⟩ | exact ⟨_,rfl⟩ | exact ⟨_,dd⟩⟩
def ratOK (n d:Int):Bool:=decide (1≤d∧d≤1000000000) && (decide (-1000000000≤n∧n≤1000000000) && decide (Nat.gcd n.natAbs d.toNat=1))
theorem ratOK_d {n d:Int} (h:¬ (1≤d∧d≤1000000000)):ratOK n d=false:=by simp [ratOK,h]
theorem ratOK_n {n d:Int} (h:¬ (-1000000000≤n∧n≤1000000000)):ratOK n d=false:=by simp [ratOK,h]
theorem ratOK_g {n d:Int} (h1:1≤d∧d≤1000000000) (h2:-1000000000≤n∧n≤1000000000) {g:Nat} (hg:Nat.gcd n.natAbs d.toNat=g):ratOK n d=decide (g=1):=by subst hg;simp [ratOK,h1,h2]
theorem ratOK_out {n d:Int} (h:ratOK n d=true):(1≤d∧d≤1000000000)∧(-1000000000≤n∧n≤1000000000)∧Nat.gcd n.natAbs d.toNat=1:=by
 simp only [ratOK,Bool.and_eq_true,decide_eq_true_eq] at h;exact ⟨h.1,h.2.1,h.2.2⟩
theorem ratOK_neg (n d:Int):ratOK (-n) d=ratOK n d:=by
 have h:decide (-1000000000≤-n∧-n≤1000000000)=decide (-1000000000≤n∧n≤1000000000):=by rw [Bool.eq_iff_iff];simp;omega
 simp only [ratOK,Int.natAbs_neg,h]
abbrev ratV (n d:Int):Value:=.agg #[.int .i64 n,.int .i64 d]
set_option maxHeartbeats 1600000 in
theorem implValidRat (n d:Int) (w:World) (hn:I64 n) (hd:I64 d) :
 Calls Tryd.prog 83 #[ratV n d] w (Leaves w (.bool (ratOK n d))):=by
 obtain ⟨W,hW⟩:∃ W,W=w.alloc (.cells #[.int .i64 n,.int .i64 d] 43):=⟨_,rfl⟩
 have hBW:Below w.heap.size w W:=by rw [hW];exact belA
 have hz:w.heap.size<W.heap.size:=by rw [hW];simp
 have c0:∀ x:Later W.heap.size W,x.w.cell? ⟨w.heap.size,0,none⟩=some (.int .i64 n):=fun x=>x.cell (by rw [hW];simp) hz
 have c1:∀ x:Later W.heap.size W,x.w.cell? ⟨w.heap.size,1,none⟩=some (.int .i64 d):=fun x=>x.cell (by rw [hW];simp) hz
 have HW:=hid (And.intro hW hBW);clear hW hBW
 have HI:=hid (And.intro hn hd);clear hn hd
 by_cases h1:1≤d∧d≤1000000000
 ·have HD:=hid (fun x:Later W.heap.size W=>later_gives x (Nat.le_refl _) (by have:=implWithin d 1 1000000000 x.w;rwa [show decide (1≤d∧d≤1000000000)=true from by simpa using h1] at this))
  by_cases h2:-1000000000≤n∧n≤1000000000
  ·have HN:=hid (fun x:Later W.heap.size W=>later_gives x (Nat.le_refl _) (by have:=implWithin n (-1000000000) 1000000000 x.w;rwa [show decide (-1000000000≤n∧n≤1000000000)=true from by simpa using h2] at this))
   have HA:=hid (fun x:Later W.heap.size W=>later_gives x (Nat.le_refl _) (implAbs n x.w (by omega)))
   have HG:=hid (fun x:Later W.heap.size W=>later_gives x (Nat.le_refl _) (by have:=implGcd n.natAbs d.toNat x.w (by omega) (by omega);rwa [show ((d.toNat:Nat):Int)=d from by omega] at this))
   obtain ⟨g,hg⟩:∃ g,Nat.gcd n.natAbs d.toNat=g:=⟨_,rfl⟩
   have hok:=ratOK_g h1 h2 hg
   rw [hg] at HG
   have HK:=hid hok;clear hok hg h1 h2
   by_cases h3:g=1
   ·have HQ:=hid (show decide (g=1)=true by simpa using h3)
    have e3:((g:Int) == 1)=true:=by simp [h3]
    have HH3:=hid h3;clear h3
    go_enter Tryd.func83,Tryd.ntmps83
    go_upto_region 1 with fail
    rw [← HW.out.1]
    refine wp_region_later (B:=W.heap.size) (w0:=W) (by kernel_rfl) (by kernel_rfl) (Below.refl _ _) ?_
    repeat (any_goals (first | go_big_quiet_step (((first | (go_at_call 50;with_reducible first | exact HD.out _ | exact HN.out _) | (go_at_call 99;exact HA.out _) | (go_at_call 98;exact HG.out _)))) | quiet_step (((first | (go_at_call 50;with_reducible first | exact HD.out _ | exact HN.out _) | (go_at_call 99;exact HA.out _) | (go_at_call 98;exact HG.out _))))))
    refine wpQuiet_nil ?_
    intro _ hw'
    obtain ⟨nq,hw''⟩:=hw'
    subst hw''
    have HNQ:=hid nq.be
    generalize nq.w=wq at *
    go_wp2_with fail
    go_ret
    exact ⟨by rw [HK.out,HQ.out];rfl,HW.out.2.trans (HNQ.out.mono (by omega))⟩
   ·have HQ:=hid (show decide (g=1)=false by simpa using h3)
    have e3:((g:Int) == 1)=false:=by simp;omega
    have HH3:=hid h3;clear h3
    go_enter Tryd.func83,Tryd.ntmps83
    go_upto_region 1 with fail
    rw [← HW.out.1]
    refine wp_region_later (B:=W.heap.size) (w0:=W) (by kernel_rfl) (by kernel_rfl) (Below.refl _ _) ?_
    repeat (any_goals (first | go_big_quiet_step (((first | (go_at_call 50;with_reducible first | exact HD.out _ | exact HN.out _) | (go_at_call 99;exact HA.out _) | (go_at_call 98;exact HG.out _)))) | quiet_step (((first | (go_at_call 50;with_reducible first | exact HD.out _ | exact HN.out _) | (go_at_call 99;exact HA.out _) | (go_at_call 98;exact HG.out _))))))
    refine wpQuiet_nil ?_
    intro _ hw'
    obtain ⟨nq,hw''⟩:=hw'
    subst hw''
    have HNQ:=hid nq.be
    generalize nq.w=wq at *
    go_wp2_with fail
    go_ret
    exact ⟨by rw [HK.out,HQ.out];rfl,HW.out.2.trans (HNQ.out.mono (by omega))⟩
  ·have HN:=hid (fun x:Later W.heap.size W=>later_gives x (Nat.le_refl _) (by have:=implWithin n (-1000000000) 1000000000 x.w;rwa [show decide (-1000000000≤n∧n≤1000000000)=false from by simpa using h2] at this))
   have HK:=hid (ratOK_n (d:=d) h2);clear h1 h2
   go_enter Tryd.func83,Tryd.ntmps83
   go_upto_region 1 with fail
   rw [← HW.out.1]
   refine wp_region_later (B:=W.heap.size) (w0:=W) (by kernel_rfl) (by kernel_rfl) (Below.refl _ _) ?_
   repeat (any_goals (first | go_big_quiet_step (((go_at_call 50;with_reducible first | exact HD.out _ | exact HN.out _))) | quiet_step (((go_at_call 50;with_reducible first | exact HD.out _ | exact HN.out _)))))
   refine wpQuiet_nil ?_
   intro _ hw'
   obtain ⟨nq,hw''⟩:=hw'
   subst hw''
   have HNQ:=hid nq.be
   generalize nq.w=wq at *
   go_wp2_with fail
   go_ret
   exact ⟨by rw [HK.out];rfl,HW.out.2.trans (HNQ.out.mono (by omega))⟩
 ·have HD:=hid (fun x:Later W.heap.size W=>later_gives x (Nat.le_refl _) (by have:=implWithin d 1 1000000000 x.w;rwa [show decide (1≤d∧d≤1000000000)=false from by simpa using h1] at this))
  have HK:=hid (ratOK_d (n:=n) h1);clear h1
  go_enter Tryd.func83,Tryd.ntmps83
  go_upto_region 1 with fail
  rw [← HW.out.1]
  refine wp_region_later (B:=W.heap.size) (w0:=W) (by kernel_rfl) (by kernel_rfl) (Below.refl _ _) ?_
  repeat (any_goals (first | go_big_quiet_step (((go_at_call 50;with_reducible exact HD.out _))) | quiet_step (((go_at_call 50;with_reducible exact HD.out _)))))
  refine wpQuiet_nil ?_
  intro _ hw'
  obtain ⟨nq,hw''⟩:=hw'
  subst hw''
  have HNQ:=hid nq.be
  generalize nq.w=wq at *
  go_wp2_with fail
  go_ret
  exact ⟨by rw [HK.out];rfl,HW.out.2.trans (HNQ.out.mono (by omega))⟩
set_option maxHeartbeats 1600000 in
theorem specValidRat (n d:Int) (w:World) (hn:I64 n) (hd:I64 d) :
 Calls Tryd.prog 76 #[ratV n d] w (Leaves w (.bool (ratOK n d))):=by
 have HI:=hid (And.intro hn hd);clear hn hd
 by_cases h1:1≤d∧d≤1000000000
 ·have k1:=hid (show decide (1≤d∧d≤1000000000)=true by simpa using h1)
  by_cases h2:-1000000000≤n∧n≤1000000000
  ·have k2:=hid (show decide (-1000000000≤n∧n≤1000000000)=true by simpa using h2)
   obtain ⟨g,hg⟩:∃ g,Nat.gcd n.natAbs d.toNat=g:=⟨_,rfl⟩
   have HG:=hid (fun (w':World) (x:Int) (hx:x=(n.natAbs:Int))=>show Calls Tryd.prog 93 #[.int .i64 x,.int .i64 d] w' (Gives w' (.int .i64 (g:Nat))) by
    have:=specGcd n.natAbs d.toNat w' (by omega) (by omega)
    rwa [show ((d.toNat:Nat):Int)=d from by omega,← hx,hg] at this)
   have HK:=hid (ratOK_g h1 h2 hg);clear hg
   have hwr:IntKind.i64.wrap (-n) = -n:=IntWalk.i64_in _ (by omega)
   have HH:=hid (And.intro h1 h2);clear h1
   by_cases h3:g=1
   ·have HQ:=hid (show decide (g=1)=true by simpa using h3)
    have e3:((g:Int) == 1)=true:=by simp [h3]
    have HH3:=hid h3;clear h3
    go_enter Tryd.func76,Tryd.ntmps76
    go_wp2_with fail
    refine (specIn d 1 1000000000 _).mono ?_
    rintro e w1 ⟨rfl,m1,rfl⟩
    rw [k1.out]
    go_wp2_with fail
    refine (specIn n (-1000000000) 1000000000 _).mono ?_
    rintro e w1 ⟨rfl,m2,rfl⟩
    rw [k2.out]
    go_wp2_with fail
    all_goals
     refine (HG.out _ _ (by omega)).mono ?_
     rintro e w1 ⟨rfl,m3,rfl⟩
     go_wp2_with fail
     go_ret
     exact ⟨by rw [HK.out,HQ.out];rfl,(by repeat (first | with_reducible assumption | with_reducible exact Below.refl _ _ | with_reducible refine below_drewN ?_ _ | with_reducible refine below_drew1 ?_ | with_reducible refine Below.al ?_ (by first | with_reducible exact Nat.le_refl _ | omega | (simp;done) | (simp;omega) | exact Nat.le_refl _) _ | with_reducible refine Below.setCell ?_ (by first | with_reducible exact Nat.le_refl _ | omega | (simp;done) | (simp;omega) | exact Nat.le_refl _) _ | assumption | exact Below.refl _ _ | refine below_drewN ?_ _ | refine below_drew1 ?_ | refine Below.al ?_ (by first | with_reducible exact Nat.le_refl _ | omega | (simp;done) | (simp;omega) | exact Nat.le_refl _) _ | refine Below.setCell ?_ (by first | with_reducible exact Nat.le_refl _ | omega | (simp;done) | (simp;omega) | exact Nat.le_refl _) _))⟩
   ·have HQ:=hid (show decide (g=1)=false by simpa using h3)
    have e3:((g:Int) == 1)=false:=by simp;omega
    have HH3:=hid h3;clear h3
    go_enter Tryd.func76,Tryd.ntmps76
    go_wp2_with fail
    refine (specIn d 1 1000000000 _).mono ?_
    rintro e w1 ⟨rfl,m1,rfl⟩
    rw [k1.out]
    go_wp2_with fail
    refine (specIn n (-1000000000) 1000000000 _).mono ?_
    rintro e w1 ⟨rfl,m2,rfl⟩
    rw [k2.out]
    go_wp2_with fail
    all_goals
     refine (HG.out _ _ (by omega)).mono ?_
     rintro e w1 ⟨rfl,m3,rfl⟩
     go_wp2_with fail
     go_ret
     exact ⟨by rw [HK.out,HQ.out];rfl,(by repeat (first | with_reducible assumption | with_reducible exact Below.refl _ _ | with_reducible refine below_drewN ?_ _ | with_reducible refine below_drew1 ?_ | with_reducible refine Below.al ?_ (by first | with_reducible exact Nat.le_refl _ | omega | (simp;done) | (simp;omega) | exact Nat.le_refl _) _ | with_reducible refine Below.setCell ?_ (by first | with_reducible exact Nat.le_refl _ | omega | (simp;done) | (simp;omega) | exact Nat.le_refl _) _ | assumption | exact Below.refl _ _ | refine below_drewN ?_ _ | refine below_drew1 ?_ | refine Below.al ?_ (by first | with_reducible exact Nat.le_refl _ | omega | (simp;done) | (simp;omega) | exact Nat.le_refl _) _ | refine Below.setCell ?_ (by first | with_reducible exact Nat.le_refl _ | omega | (simp;done) | (simp;omega) | exact Nat.le_refl _) _))⟩
  ·have k2:=hid (show decide (-1000000000≤n∧n≤1000000000)=false by simpa using h2)
   have HK:=hid (ratOK_n (d:=d) h2);clear h1 h2
   go_enter Tryd.func76,Tryd.ntmps76
   go_wp2_with fail
   refine (specIn d 1 1000000000 _).mono ?_
   rintro e w1 ⟨rfl,m1,rfl⟩
   rw [k1.out]
   go_wp2_with fail
   refine (specIn n (-1000000000) 1000000000 _).mono ?_
   rintro e w1 ⟨rfl,m2,rfl⟩
   rw [k2.out]
   go_wp2_with fail
   go_ret
   exact ⟨by rw [HK.out];rfl,(by repeat (first | with_reducible assumption | with_reducible exact Below.refl _ _ | with_reducible refine below_drewN ?_ _ | with_reducible refine below_drew1 ?_ | with_reducible refine Below.al ?_ (by first | with_reducible exact Nat.le_refl _ | omega | (simp;done) | (simp;omega) | exact Nat.le_refl _) _ | with_reducible refine Below.setCell ?_ (by first | with_reducible exact Nat.le_refl _ | omega | (simp;done) | (simp;omega) | exact Nat.le_refl _) _ | assumption | exact Below.refl _ _ | refine below_drewN ?_ _ | refine below_drew1 ?_ | refine Below.al ?_ (by first | with_reducible exact Nat.le_refl _ | omega | (simp;done) | (simp;omega) | exact Nat.le_refl _) _ | refine Below.setCell ?_ (by first | with_reducible exact Nat.le_refl _ | omega | (simp;done) | (simp;omega) | exact Nat.le_refl _) _))⟩
 ·have k1:=hid (show decide (1≤d∧d≤1000000000)=false by simpa using h1)
  have HK:=hid (ratOK_d (n:=n) h1);clear h1
  go_enter Tryd.func76,Tryd.ntmps76
  go_wp2_with fail
  refine (specIn d 1 1000000000 _).mono ?_
  rintro e w1 ⟨rfl,m1,rfl⟩
  rw [k1.out]
  go_wp2_with fail
  go_ret
  exact ⟨by rw [HK.out];rfl,(by repeat (first | with_reducible assumption | with_reducible exact Below.refl _ _ | with_reducible refine below_drewN ?_ _ | with_reducible refine below_drew1 ?_ | with_reducible refine Below.al ?_ (by first | with_reducible exact Nat.le_refl _ | omega | (simp;done) | (simp;omega) | exact Nat.le_refl _) _ | with_reducible refine Below.setCell ?_ (by first | with_reducible exact Nat.le_refl _ | omega | (simp;done) | (simp;omega) | exact Nat.le_refl _) _ | assumption | exact Below.refl _ _ | refine below_drewN ?_ _ | refine below_drew1 ?_ | refine Below.al ?_ (by first | with_reducible exact Nat.le_refl _ | omega | (simp;done) | (simp;omega) | exact Nat.le_refl _) _ | refine Below.setCell ?_ (by first | with_reducible exact Nat.le_refl _ | omega | (simp;done) | (simp;omega) | exact Nat.le_refl _) _))⟩
end Go.Proofs.YteiaofkgbdlpoaaDoor
