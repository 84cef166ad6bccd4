/- Lemmas for the proof of FnIteration, part 3 of 22: no condition of their own. -/
import Derived.Test.YtfobmfngbfbfdaaJ2
import Derived.Deep.CutBlock
import Derived.Deep.DeepCutAuto
import Derived.Test.YtfobmfngbfbfdaaJ1
import Derived.Deep.RegionLaw
import Derived.Deep.AppendLies
namespace Go.Proofs.Ytfobmfngbfbfdaa
set_option linter.unusedSimpArgs false
set_option linter.unusedVariables false
open Go.RowKit
open Classical in
noncomputable def firstF (rows:List (List Int)) (k p l h:Nat):Bool:=decide (p=l∨p=h∨kx rows p k ≠ kx rows (p - 1) k)
set_option maxRecDepth 100000 in
set_option maxHeartbeats 6400000 in
theorem specFirst {fz:Bool} {lo hi:Nat} (ar:Int) (a:Option Addr) (n c:Nat) (rows:List (List Int)) (la:Option Addr) (ln lc:Nat) (lw:List Int) (ga:Option Addr) (gn gc:Nat) (gh:List Int) (pa:Option Addr) (pn pc:Nat) (ps:List Int) (k p l h:Nat) (w:World)
 (hI:IterA fz lo hi w ar a n c rows la ln lc lw ga gn gc gh pa pn pc ps) (hh:hi≤w.heap.size) (hk1:k<ln) (hk2:k<gn) (hk3:k<pn) (e1:ix lw k=l) (e2:ix gh k=h) (e3:ix ps k=p) (hlp:l≤p) (hph:p≤h) (hhn:h≤n) (hrow:∀ i,i<n→k<(rx rows i).length) :
 Calls Try.prog 40 #[iterV ar a n c la ln lc ga gn gc pa pn pc,.int .i64 k] w (Leaves w (.bool (firstF rows k p l h))):=by
 have hs1:=hI.1.2.small
 have hs2:=hI.2.1.small
 have hs3:=hI.2.2.1.small
 have hs4:=hI.2.2.2.small
 have HR:=hid hrow;clear hrow
 obtain ⟨W,hW⟩:∃ W,W=w.alloc (.cells #[.int .i64 ar,.slice a n c,.slice la ln lc,.slice ga gn gc,.slice pa pn pc] 29):=⟨_,rfl⟩
 have hBW:Below w.heap.size w W:=by rw [hW];exact belA
 have hI1:=beIter hI hBW hh
 have c0:W.cell? ⟨w.heap.size,0,none⟩=some (.int .i64 ar):=by rw [hW];simp
 have c1:W.cell? ⟨w.heap.size,1,none⟩=some (.slice a n c):=by rw [hW];simp
 have c2:W.cell? ⟨w.heap.size,2,none⟩=some (.slice la ln lc):=by rw [hW];simp
 have c3:W.cell? ⟨w.heap.size,3,none⟩=some (.slice ga gn gc):=by rw [hW];simp
 have c4:W.cell? ⟨w.heap.size,4,none⟩=some (.slice pa pn pc):=by rw [hW];simp
 have HBW:=hid hBW;clear hBW
 have HI:=hid hI;clear hI
 obtain ⟨lb,lo',rfl,d1,_⟩:=intsAt hI1.2.1 hk1
 obtain ⟨gb,go',rfl,d2,_⟩:=intsAt hI1.2.2.1 hk2
 obtain ⟨pb,po',rfl,d3,i3⟩:=intsAt hI1.2.2.2 hk3
 rw [e1] at d1
 rw [e2] at d2
 rw [e3] at d3
 have HX:=hid (And.intro e1 (And.intro e2 e3));clear e1 e2 e3 i3
 have hA:=hI1.1.2
 have HA:=hid hA
 clear hI1 hA
 by_cases f1:p=l
 ·have hb1:((p:Int) == (l:Int))=true:=by simp [f1]
  have HF:=hid (show firstF rows k p l h=true by simp [firstF,f1])
  have H1:=hid f1;clear f1
  have HWW:=hid hW;clear hW
  go_enter Try.func40,Try.ntmps40
  go_upto_region 1 with fail
  rw [← HWW.out]
  go_wp2_with fail
  go_quiet (fail)
  go_wp2_with fail
  go_ret
  exact ⟨by rw [HF.out];rfl,below_drewN HBW.out _⟩
 ·have hb1:((p:Int) == (l:Int))=false:=by simp;omega
  by_cases f2:p<n
  ·have hb2:decide ((p:Int)<(n:Int))=true:=by simp;omega
   obtain ⟨q,rfl⟩:∃ q,p=q+1:=⟨p - 1,by omega⟩
   obtain ⟨b,off,rfl⟩:=RowsA.some HA.out (show 0<n by omega)
   obtain ⟨b2,off2,rn,rc,y0,y1,y2,y3,y4,_⟩:=rowsKey HA.out f2 (HR.out (q+1) f2)
   obtain ⟨b4,off4,rn4,rc4,z0,z1,z2,z3,z4,_⟩:=rowsKey HA.out (show q<n by omega) (HR.out q (by omega))
   have hw2:IntKind.i64.wrap (((q+1:Nat):Int) - 1)=q:=by rw [show ((q+1:Nat):Int) - 1=q by omega];exact IntWalk.i64_in _ (by omega)
   have hw3:IntKind.i64.wrap ((q:Int)+1 - 1)=q:=by rw [show (q:Int)+1 - 1=q by omega];exact IntWalk.i64_in _ (by omega)
   have hb2':decide ((q:Int)+1<(n:Int))=true:=by simp;omega
   have hb1':((q:Int)+1 == (l:Int))=false:=by simp;omega
   have hF:firstF rows k (q+1) l h=decide (q+1=h∨kx rows (q+1) k ≠ kx rows q k):=by unfold firstF;rw [Bool.eq_iff_iff];simp [f1]
   generalize kx rows (q+1) k=v1 at *
   generalize kx rows q k=v2 at *
   by_cases f3:v1=v2
   ·have hb3:(v1 != v2)=false:=by simp [f3]
    by_cases f4:q+1=h
    ·have hb4:(((q+1:Nat):Int) == (h:Int))=true:=by simp;omega
     have hb4':((q:Int)+1 == (h:Int))=true:=by simp;omega
     have HF:=hid (show firstF rows k (q+1) l h=true by rw [hF];simp [f4])
     have H1:=hid (And.intro f1 (And.intro f3 (And.intro f4 hF)));clear f1 f3 f4 hF
     have HWW:=hid hW;clear hW
     go_enter Try.func40,Try.ntmps40
     go_upto_region 1 with fail
     rw [← HWW.out]
     go_wp2_with fail
     go_quiet (fail)
     go_wp2_with fail
     go_ret
     exact ⟨by rw [HF.out];rfl,below_drewN HBW.out _⟩
    ·have hb4:(((q+1:Nat):Int) == (h:Int))=false:=by simp;omega
     have hb4':((q:Int)+1 == (h:Int))=false:=by simp;omega
     have HF:=hid (show firstF rows k (q+1) l h=false by rw [hF];simp [f4,f3])
     have H1:=hid (And.intro f1 (And.intro f3 (And.intro f4 hF)));clear f1 f3 f4 hF
     have HWW:=hid hW;clear hW
     go_enter Try.func40,Try.ntmps40
     go_upto_region 1 with fail
     rw [← HWW.out]
     go_wp2_with fail
     go_quiet (fail)
     go_wp2_with fail
     go_ret
     exact ⟨by rw [HF.out];rfl,below_drewN HBW.out _⟩
   ·have hb3:(v1 != v2)=true:=by simp [f3]
    have HF:=hid (show firstF rows k (q+1) l h=true by rw [hF];simp [f3])
    have H1:=hid (And.intro f1 (And.intro f3 hF));clear f1 f3 hF
    have HWW:=hid hW;clear hW
    go_enter Try.func40,Try.ntmps40
    go_upto_region 1 with fail
    rw [← HWW.out]
    go_wp2_with fail
    go_quiet (fail)
    go_wp2_with fail
    go_ret
    exact ⟨by rw [HF.out];rfl,below_drewN HBW.out _⟩
  ·have hF:firstF rows k p l h=true:=by simp [firstF,show p=h by omega]
   have HF:=hid hF;clear hF
   obtain rfl:p=h:=by omega
   obtain rfl:p=n:=by omega
   have hb2:decide ((p:Int)<(p:Int))=false:=by simp
   have hb4:((p:Int) == (p:Int))=true:=by simp
   have H1:=hid (And.intro f1 f2);clear f1 f2 hph hhn
   have HWW:=hid hW;clear hW
   go_enter Try.func40,Try.ntmps40
   go_upto_region 1 with fail
   rw [← HWW.out]
   go_wp2_with fail
   go_quiet (fail)
   go_wp2_with fail
   go_ret
   exact ⟨by rw [HF.out];rfl,below_drewN HBW.out _⟩
end Go.Proofs.Ytfobmfngbfbfdaa
namespace Go.Proofs.Ytfobmfngbfbfdaa
set_option linter.unusedSimpArgs false
set_option linter.unusedVariables false
open Go.RowKit
theorem intsCell {fz:Bool} {lo hi:Nat} {w:World} {b off n c:Nat} {xs:List Int} (h:IntsA fz lo hi w (some ⟨b,off,none⟩) n c xs) {i:Nat} (hi':i<n):w.cell? ⟨b,off+i,none⟩=some (.int .i64 (ix xs i)):=by
 obtain ⟨b',off',ha,_,_,hc,_⟩:=h.open (by omega)
 simp only [Option.some.injEq,Addr.mk.injEq,and_true] at ha
 obtain ⟨rfl,rfl⟩:=ha
 exact hc i hi'
set_option maxRecDepth 100000 in
set_option maxHeartbeats 6400000 in
theorem specValidIt {fz:Bool} {lo hi:Nat} (ar:Int) (a:Option Addr) (n c:Nat) (rows:List (List Int)) (la:Option Addr) (ln lc:Nat) (lw:List Int) (ga:Option Addr) (gn gc:Nat) (gh:List Int) (pa:Option Addr) (pn pc:Nat) (ps:List Int) (w:World)
 (hI:IterA fz lo hi w ar a n c rows la ln lc lw ga gn gc gh pa pn pc ps) (hh:hi≤w.heap.size) :
 Calls Try.prog 16 #[iterV ar a n c la ln lc ga gn gc pa pn pc] w (Leaves w (.bool (validIt ar rows lw gh ps))):=by
 have har:=hI.1.1
 have hl1:=hI.1.2.len
 have hl2:=hI.2.1.len
 have hl3:=hI.2.2.1.len
 have hl4:=hI.2.2.2.len
 have hs1:=hI.1.2.small
 have hs2:=hI.2.1.small
 have hs3:=hI.2.2.1.small
 have hs4:=hI.2.2.2.small
 have HL:=hid (And.intro hl1 (And.intro hl2 (And.intro hl3 hl4)));clear hl1 hl2 hl3 hl4
 have HI:=hid hI;clear hI
 have HAR:=hid har;clear har
 obtain ⟨vb,hvb⟩:∃ vb,validR ar rows=vb:=⟨_,rfl⟩
 have HVB:=hid hvb;clear hvb
 cases vb with
 | false =>
  have HF:=hid (validIt_no (ar:=ar) (rows:=rows) (low:=lw) (high:=gh) (pos:=ps) (fun h=>by rw [HVB.out] at h;cases h.1))
  go_enter Try.func16,Try.ntmps16
  go_wp2_with fail
  refine (specValidTrie ar a n c rows _ (HI.out.1.2.be intsOK (B:=w.heap.size) belA hh) leA HAR.out).mono ?_
  rintro e w1 ⟨rfl,hb1⟩
  rw [HVB.out]
  have hb2:Below w.heap.size w w1:=Below.trans belA (hb1.mono leA)
  have HB:=hid hb2;clear hb1 hb2
  go_wp2_with fail
  go_ret
  exact ⟨by rw [HF.out];rfl,HB.out⟩
 | true =>
  have hno:∀ P:Prop,(¬ (lw.length=ps.length∧gh.length=ps.length∧(ps.length:Int)≤ar))→validIt ar rows lw gh ps=false:=fun _ h=>validIt_no (fun g=>h g.2)
  have HNO:=hid hno;clear hno
  go_enter Try.func16,Try.ntmps16
  go_wp2_with fail
  refine (specValidTrie ar a n c rows _ (HI.out.1.2.be intsOK (B:=w.heap.size) belA hh) leA HAR.out).mono ?_
  rintro e w1 ⟨rfl,hb1⟩
  rw [HVB.out]
  have hb2:Below w.heap.size w w1:=Below.trans belA (hb1.mono leA)
  have c0:w1.cell? ⟨w.heap.size,0,none⟩=some (.int .i64 ar):=(by rw [(bcell hb1).1 _ _ (by first | omega | (simp;done) | (simp;omega))];first | with_reducible assumption | (go_simp;done) | assumption | (simp [World.cell?];done))
  have c1:w1.cell? ⟨w.heap.size,1,none⟩=some (.slice a n c):=(by rw [(bcell hb1).1 _ _ (by first | omega | (simp;done) | (simp;omega))];first | with_reducible assumption | (go_simp;done) | assumption | (simp [World.cell?];done))
  have c2:w1.cell? ⟨w.heap.size,2,none⟩=some (.slice la ln lc):=(by rw [(bcell hb1).1 _ _ (by first | omega | (simp;done) | (simp;omega))];first | with_reducible assumption | (go_simp;done) | assumption | (simp [World.cell?];done))
  have c3:w1.cell? ⟨w.heap.size,3,none⟩=some (.slice ga gn gc):=(by rw [(bcell hb1).1 _ _ (by first | omega | (simp;done) | (simp;omega))];first | with_reducible assumption | (go_simp;done) | assumption | (simp [World.cell?];done))
  have c4:w1.cell? ⟨w.heap.size,4,none⟩=some (.slice pa pn pc):=(by rw [(bcell hb1).1 _ _ (by first | omega | (simp;done) | (simp;omega))];first | with_reducible assumption | (go_simp;done) | assumption | (simp [World.cell?];done))
  have hz1:w.heap.size<w1.heap.size:=World.block_lt_of_cell? _ _ c0
  have hI1:=beIter HI.out hb2 hh
  have HB:=hid hb2;clear hb1 hb2
  have HI1:=hid hI1;clear hI1
  by_cases e3:(pn:Int)≤ar
  ·by_cases e1:ln=pn
   ·have hb1:((ln:Int) != (pn:Int))=false:=by simp [e1]
    by_cases e2:gn=pn
    ·have hb2:((gn:Int) != (pn:Int))=false:=by simp [e2]
     have HE:=hid (And.intro e1 e2);clear e1 e2
     have hrl:∀ i k,i<n→k<pn→k<(rx rows i).length:=fun i k hi' hk=>by
      have:=((validR_out HVB.out).2.2 i (by rw [HL.out.1];exact hi')).1;omega
     have HRL:=hid hrl;clear hrl
     have hyes:(∀ k,k<pn→LevOK rows lw gh ps ps.length k)→validIt ar rows lw gh ps=true:=fun g=>validIt_mk (low:=lw) (high:=gh) (pos:=ps) HVB.out (by rw [HL.out.2.1,HL.out.2.2.2];exact HE.out.1) (by rw [HL.out.2.2.1,HL.out.2.2.2];exact HE.out.2) (by rw [HL.out.2.2.2];exact e3) (by rw [HL.out.2.2.2];rw [HL.out.2.2.2] at g;exact g)
     have HYES:=hid hyes;clear hyes
     go_wp2_with fail
     go_loopw [4,5,6] (fun s5 s6 s7 wr=>∃ k l h:Nat,s7=.int .i64 k∧s5=.int .i64 l∧s6=.int .i64 h∧k≤pn∧Hid (bnd rows ps k=(l,h))∧Hid (∀ j,j<k→LevOK rows lw gh ps ps.length j)∧Hid (Below w1.heap.size w1 wr)) (fun _ _ s7 _=>pn - (intOf s7).toNat)
     case atStart=>exact ⟨0,0,n,rfl,rfl,rfl,by omega,hid (by simp [bnd,HL.out.1]),hid (fun j hj=>by omega),hid belA⟩
     case round =>
      obtain ⟨k,l,h,rfl,rfl,rfl,hk,HBN,HT,HW⟩:=hrel
      have hzw:=HW.out.size
      have HWW:=hid (HB.out.trans (HW.out.mono (show w.heap.size≤w1.heap.size by omega)))
      by_cases hlt:k<pn
      ·replace c0:wr.cell? ⟨w.heap.size,0,none⟩=some (.int .i64 ar):=by rw [(bcell HW.out).1 _ _ hz1];exact c0
       replace c1:wr.cell? ⟨w.heap.size,1,none⟩=some (.slice a n c):=by rw [(bcell HW.out).1 _ _ hz1];exact c1
       replace c2:wr.cell? ⟨w.heap.size,2,none⟩=some (.slice la ln lc):=by rw [(bcell HW.out).1 _ _ hz1];exact c2
       replace c3:wr.cell? ⟨w.heap.size,3,none⟩=some (.slice ga gn gc):=by rw [(bcell HW.out).1 _ _ hz1];exact c3
       replace c4:wr.cell? ⟨w.heap.size,4,none⟩=some (.slice pa pn pc):=by rw [(bcell HW.out).1 _ _ hz1];exact c4
       have hIr:=beIter HI1.out HW.out (show hi≤w1.heap.size by omega)
       have hbo:=bnd_ok (rows:=rows) (low:=lw) (high:=gh) (pos:=ps) (n:=ps.length) (k:=k) (by rw [HL.out.2.2.2];exact hlt) HT.out
       rw [HBN.out] at hbo
       have hlh:l≤h:=hbo.1
       have hhn:h≤n:=by have:=hbo.2;rw [HL.out.1] at this;exact this
       have HBO:=hid hbo;clear hbo
       obtain ⟨lb,lo',rfl,d1,_⟩:=intsAt hIr.2.1 (show k<ln by have:=HE.out;omega)
       obtain ⟨gb,go',rfl,d2,_⟩:=intsAt hIr.2.2.1 (show k<gn by have:=HE.out;omega)
       obtain ⟨pb,po',rfl,d3,i3⟩:=intsAt hIr.2.2.2 hlt
       have hkln:k<ln:=by have:=HE.out;omega
       have hkgn:k<gn:=by have:=HE.out;omega
       have HIR:=hid hIr;clear hIr
       have hfail:¬ LevOK rows lw gh ps ps.length k→validIt ar rows lw gh ps=false:=fun hn=>validIt_lev (by rw [HL.out.2.2.2];exact hlt) hn
       have HFA:=hid hfail;clear hfail
       generalize hxl:ix lw k=xl at *
       generalize hxg:ix gh k=xg at *
       generalize hxp:ix ps k=xp at *
       have HX:=hid (And.intro hxl (And.intro hxg hxp));clear hxl hxg hxp
       have hlev:LevOK rows lw gh ps ps.length k↔(xl=l∧xg=h∧((l:Int)≤xp∧xp≤h)∧(xp=h→k+1=pn)∧((l:Int)<xp→xp<h→kx rows (px ps k - 1) k ≠ kx rows (px ps k) k)):=by
        unfold LevOK;rw [HBN.out,HX.out.1,HX.out.2.1,HX.out.2.2,HL.out.2.2.2]
       have HLEV:=hid hlev;clear hlev
       by_cases f1:xl=l
       ·have hb3:(xl != (l:Int))=false:=by simp [f1]
        by_cases f2:xg=h
        ·have hb4:(xg != (h:Int))=false:=by simp [f2]
         by_cases f3:(l:Int)≤xp∧xp≤h
         ·have hd:decide ((l:Int)≤xp∧xp≤h)=true:=by simpa using f3
          obtain ⟨p,hp⟩:∃ p:Nat,xp=p:=⟨xp.toNat,by omega⟩
          have hpx:px ps k=p:=by unfold px;rw [HX.out.2.2,hp];rfl
          subst hp
          have HP:=hid hpx;clear hpx
          have hpl:l≤p:=by omega
          have hph:p≤h:=by omega
          have hw1:IntKind.i64.wrap ((pn:Int) - 1)=(pn:Int) - 1:=IntWalk.i64_in _ (by omega)
          by_cases f4:p=h∧¬ k+1=pn
          ·have hb5:((p:Int) == (h:Int))=true:=by simp [f4.1]
           have hb6:decide ((k:Int)<(pn:Int) - 1)=true:=by simp;omega
           have hb7:(k:Int)<(pn:Int) - 1:=by omega
           have HF:=hid (HFA.out (fun g=>f4.2 ((HLEV.out.1 g).2.2.2.1 (by omega))))
           have H4:=hid (And.intro f1 (And.intro f2 f4));clear f1 f2 f4
           go_wp2_with fail
           refine (specIn (p:Int) l h _).mono ?_
           rintro e w3 ⟨rfl,m3,rfl⟩
           rw [hd]
           go_wp2_with fail
           go_ret
           exact ⟨by rw [HF.out];rfl,below_drewN HWW.out _⟩
          ·have hc5:((p:Int) == (h:Int))=false∨(((p:Int) == (h:Int))=true∧¬ (k:Int)<(pn:Int) - 1):=by
            by_cases g:p=h
            ·right;exact ⟨by simp [g],by omega⟩
            ·left;simp;omega
           obtain ⟨fb,hfb⟩:∃ fb,firstF rows k p l h=fb:=⟨_,rfl⟩
           have HFB:=hid hfb;clear hfb
           have hrow:∀ i,i<n→k<(rx rows i).length:=fun i hi'=>HRL.out i k hi' hlt
           have HROW:=hid hrow;clear hrow
           cases fb with
           | false =>
            have HF:=hid (HFA.out (fun g=>by
             have g2:=(HLEV.out.1 g).2.2.2.2
             rw [HP.out] at g2
             have g3:=HFB.out
             simp only [firstF,decide_eq_false_iff_not] at g3
             have g4:p ≠ l:=fun e=>g3 (.inl e)
             have g5:p ≠ h:=fun e=>g3 (.inr (.inl e))
             exact g2 (by omega) (by omega) (by
              by_cases g6:kx rows p k=kx rows (p - 1) k
              ·exact g6.symm
              ·exact absurd (.inr (.inr g6)) g3)))
            have H4:=hid (And.intro f1 (And.intro f2 f4));clear f1 f2 f4
            rcases hc5 with hc5 | ⟨hc5,hc6⟩
            all_goals
             go_wp2_with fail
             refine (specIn (p:Int) l h _).mono ?_
             rintro e w3 ⟨rfl,m3,rfl⟩
             rw [hd]
             go_wp2_with fail
             refine (specFirst ar a n c rows _ ln lc lw _ gn gc gh _ pn pc ps k p l h _ (kpIter HIR.out (by repeat (first | assumption | exact Keeps.refl _ _ _ | exact HB.out.1 | refine Keeps.dr ?_ _ | refine Keeps.sc ?_ (by first | omega | (simp;done) | (simp;omega)) _ | refine Keeps.al ?_ (by first | with_reducible exact Nat.le_refl _ | omega | (simp;done) | (simp;omega) | exact Nat.le_refl _) _))) (by show hi≤wr.heap.size;omega) hkln hkgn hlt (by rw [HX.out.1];exact H4.out.1) (by rw [HX.out.2.1];exact H4.out.2.1) HX.out.2.2 hpl hph hhn HROW.out).mono ?_
             rintro e w4 ⟨rfl,hb4'⟩
             rw [HFB.out]
             have HW4:Hid (Below w.heap.size w w4):=hid (Below.trans (B:=w.heap.size) (below_drewN HWW.out _) (hb4'.mono (by show w.heap.size≤wr.heap.size;omega)))
             clear hb4'
             go_wp2_with fail
             go_ret
             exact ⟨by rw [HF.out];rfl,HW4.out⟩
           | true =>
            have hlk:LevOK rows lw gh ps ps.length k:=HLEV.out.2 ⟨f1,f2,f3,fun g=>by
             by_cases g5:k+1=pn
             ·exact g5
             ·exact absurd ⟨by omega,g5⟩ f4,fun g1 g2=>by
              rw [HP.out]
              have g3:=HFB.out
              simp only [firstF,decide_eq_true_eq] at g3
              rcases g3 with g3 | g3 | g3
              ·omega
              ·omega
              ·exact fun e=>g3 e.symm⟩
            have HT2:Hid (∀ j,j<k+1→LevOK rows lw gh ps ps.length j):=hid (by
             intro j hj
             by_cases ej:j=k
             ·subst ej;exact hlk
             ·exact HT.out j (by omega))
            have HBN2:Hid (bnd rows ps (k+1)=(p,grpEnd rows k p h)):=hid (by simp only [bnd];rw [HP.out,HBN.out])
            have H4:=hid (And.intro f1 (And.intro f2 (And.intro f4 hlk)));clear f1 f2 f4 hlk
            rcases hc5 with hc5 | ⟨hc5,hc6⟩
            all_goals
             go_wp2_with fail
             refine (specIn (p:Int) l h _).mono ?_
             rintro e w3 ⟨rfl,m3,rfl⟩
             rw [hd]
             go_wp2_with fail
             refine (specFirst ar a n c rows _ ln lc lw _ gn gc gh _ pn pc ps k p l h _ (kpIter HIR.out (by repeat (first | assumption | exact Keeps.refl _ _ _ | exact HB.out.1 | refine Keeps.dr ?_ _ | refine Keeps.sc ?_ (by first | omega | (simp;done) | (simp;omega)) _ | refine Keeps.al ?_ (by first | with_reducible exact Nat.le_refl _ | omega | (simp;done) | (simp;omega) | exact Nat.le_refl _) _))) (by show hi≤wr.heap.size;omega) hkln hkgn hlt (by rw [HX.out.1];exact H4.out.1) (by rw [HX.out.2.1];exact H4.out.2.1) HX.out.2.2 hpl hph hhn HROW.out).mono ?_
             rintro e w4 ⟨rfl,hb4'⟩
             rw [HFB.out]
             have hzz:w.heap.size<wr.heap.size:=by omega
             replace c0:w4.cell? ⟨w.heap.size,0,none⟩=some (.int .i64 ar):=by rw [(bcell hb4').1 _ _ hzz];exact c0
             replace c1:w4.cell? ⟨w.heap.size,1,none⟩=some (.slice a n c):=by rw [(bcell hb4').1 _ _ hzz];exact c1
             replace c2:w4.cell? ⟨w.heap.size,2,none⟩=some (.slice (some ⟨lb,lo',none⟩) ln lc):=by rw [(bcell hb4').1 _ _ hzz];exact c2
             replace c3:w4.cell? ⟨w.heap.size,3,none⟩=some (.slice (some ⟨gb,go',none⟩) gn gc):=by rw [(bcell hb4').1 _ _ hzz];exact c3
             replace c4:w4.cell? ⟨w.heap.size,4,none⟩=some (.slice (some ⟨pb,po',none⟩) pn pc):=by rw [(bcell hb4').1 _ _ hzz];exact c4
             have hI4:=beIter (kpIter (w':=wr.drewN m3) HIR.out (by repeat (first | assumption | exact Keeps.refl _ _ _ | exact HB.out.1 | refine Keeps.dr ?_ _ | refine Keeps.sc ?_ (by first | omega | (simp;done) | (simp;omega)) _ | refine Keeps.al ?_ (by first | with_reducible exact Nat.le_refl _ | omega | (simp;done) | (simp;omega) | exact Nat.le_refl _) _))) hb4' (by show hi≤wr.heap.size;omega)
             replace d2:=intsCell hI4.2.2.1 hkgn
             replace d3:=intsCell hI4.2.2.2 hlt
             rw [HX.out.2.1,H4.out.2.1] at d2
             rw [HX.out.2.2] at d3
             clear d1
             have HI4:=hid hI4;clear hI4
             have HW4:Hid (Below w1.heap.size w1 w4):=hid (Below.trans (B:=w1.heap.size) (below_drewN HW.out _) (hb4'.mono (by show w1.heap.size≤wr.heap.size;omega)))
             clear hb4'
             go_wp2_with fail
             go_loopw [5] (fun s5 wx=>∃ q:Nat,s5=.int .i64 q∧p≤q∧q≤h∧Hid (∀ i,p≤i→i<q→kx rows i k=kx rows p k)∧Hid (∃ m,wx=w4.drewN m)) (fun s5 _=>h - (intOf s5).toNat)
             case atStart=>exact ⟨p,rfl,Nat.le_refl _,hph,hid (fun i g1 g2=>by omega),hid ⟨0,rfl⟩⟩
             case round =>
              obtain ⟨q,rfl,hq1,hq2,HTQ,HD⟩:=hrel
              have c0':wr.cell? ⟨w.heap.size,0,none⟩=some (.int .i64 ar):=by obtain ⟨m,rfl⟩:=HD.out;exact c0
              have c1':wr.cell? ⟨w.heap.size,1,none⟩=some (.slice a n c):=by obtain ⟨m,rfl⟩:=HD.out;exact c1
              have c3':wr.cell? ⟨w.heap.size,3,none⟩=some (.slice (some ⟨gb,go',none⟩) gn gc):=by obtain ⟨m,rfl⟩:=HD.out;exact c3
              have d2':wr.cell? ⟨gb,go'+k,none⟩=some (.int .i64 h):=by obtain ⟨m,rfl⟩:=HD.out;exact d2
              have hrx:RowsA fz lo hi wr a n c rows:=SlA.keep intsOK HI4.out.1.2 (keeps_dr lo hi HD.out)
              have HRX:=hid hrx;clear hrx
              have HWX:∀ m,Hid (Below w1.heap.size w1 (wr.drewN m)):=fun m=>hid (by obtain ⟨m',rfl⟩:=HD.out;exact below_drewN (below_drewN HW4.out _) _)
              have HWXH:=hid HWX;clear HWX
              by_cases hqh:q<h
              ·have hdq:decide ((q:Int)<(h:Int))=true:=by simp;omega
               have hpn:p<n:=by omega
               have hqn:q<n:=by omega
               obtain ⟨b,off,rfl⟩:=RowsA.some HRX.out (show 0<n by omega)
               obtain ⟨b2,off2,rn,rc,y0,y1,y2,y3,y4,_⟩:=rowsKey HRX.out hpn (HROW.out p hpn)
               obtain ⟨b5,off5,rn4,rc4,z0,z1,z2,z3,z4,_⟩:=rowsKey HRX.out hqn (HROW.out q hqn)
               generalize hk1:kx rows p k=v1 at *
               generalize hk2:kx rows q k=v2 at *
               have HKK:=hid (And.intro hk1 hk2);clear hk1 hk2
               by_cases f7:v2=v1
               ·have hb8:(v2 == v1)=true:=by simp [f7]
                have HTQ2:Hid (∀ i,p≤i→i<q+1→kx rows i k=v1):=hid (fun i g1 g2=>by
                 by_cases e:i=q
                 ·subst e;rw [HKK.out.2];exact f7
                 ·exact HTQ.out i g1 (by omega))
                have H7:=hid f7;clear f7
                go_wp2_with fail
                go_quiet (fail)
                go_wp2_with fail
                go_roundw
                case rel=>exact ⟨q+1,by go_num,by omega,by omega,HTQ2,hid (by first | exact HD.out | exact dr_more HD.out _ | (rw [dd];exact dr_more HD.out _) | (rw [dd,dd];exact dr_more HD.out _) | exact ⟨_,rfl⟩ | exact ⟨_,dd⟩)⟩
                case measure=>simp [intOf];omega
               ·have hb8:(v2 == v1)=false:=by simp [f7]
                have HG:=hid (grpEnd_eq (rows:=rows) (k:=k) (p:=p) (hi:=h) hq2 hq1 (by rw [HKK.out.1];exact HTQ.out) (fun _=>by rw [HKK.out.1,HKK.out.2];exact f7))
                have H7:=hid f7;clear f7
                go_wp2_with fail
                go_quiet (fail)
                go_wp2_with fail
                go_roundw
                case rel=>exact ⟨k+1,p,q,by go_num,rfl,rfl,by omega,by rw [← HG.out];exact HBN2,HT2,HWXH.out _⟩
                case measure=>simp [intOf];omega
              ·have hdq:decide ((q:Int)<(h:Int))=false:=by simp;omega
               have HG:=hid (grpEnd_eq (rows:=rows) (k:=k) (p:=p) (hi:=h) hq2 hq1 HTQ.out (fun g=>by omega))
               go_wp2_with fail
               go_quiet (fail)
               go_wp2_with fail
               go_roundw
               case rel=>exact ⟨k+1,p,q,by go_num,rfl,rfl,by omega,by rw [← HG.out];exact HBN2,HT2,HWXH.out _⟩
               case measure=>simp [intOf];omega
         ·have hd:decide ((l:Int)≤xp∧xp≤h)=false:=by simpa using f3
          have HF:=hid (HFA.out (fun g=>f3 (HLEV.out.1 g).2.2.1))
          have H1:=hid (And.intro f1 (And.intro f2 f3));clear f1 f2 f3
          go_wp2_with fail
          refine (specIn xp l h _).mono ?_
          rintro e w3 ⟨rfl,m3,rfl⟩
          rw [hd]
          go_wp2_with fail
          go_ret
          exact ⟨by rw [HF.out];rfl,below_drewN HWW.out _⟩
        ·have hb4:(xg != (h:Int))=true:=by simp [f2]
         have HF:=hid (HFA.out (fun g=>f2 (HLEV.out.1 g).2.1))
         have H1:=hid (And.intro f1 f2);clear f1 f2
         go_wp2_with fail
         go_ret
         exact ⟨by rw [HF.out];rfl,HWW.out⟩
       ·have hb3:(xl != (l:Int))=true:=by simp [f1]
        have HF:=hid (HFA.out (fun g=>f1 (HLEV.out.1 g).1))
        have H1:=hid f1;clear f1
        go_wp2_with fail
        go_ret
        exact ⟨by rw [HF.out];rfl,HWW.out⟩
      ·have HF:=hid (HYES.out (fun j hj=>HT.out j (by omega)))
       go_wp2_with fail
       go_ret
       exact ⟨by rw [HF.out];rfl,HWW.out⟩
    ·have hb2:((gn:Int) != (pn:Int))=true:=by rw [bne_iff_ne];omega
     have HF:=hid (HNO.out True (fun h=>e2 (by rw [← HL.out.2.2.1,← HL.out.2.2.2];exact h.2.1)))
     have HE:=hid (And.intro e1 e2);clear e1 e2
     go_wp2_with fail
     go_ret
     exact ⟨by rw [HF.out];rfl,HB.out⟩
   ·have hb1:((ln:Int) != (pn:Int))=true:=by rw [bne_iff_ne];omega
    have HF:=hid (HNO.out True (fun h=>e1 (by rw [← HL.out.2.1,← HL.out.2.2.2];exact h.1)))
    have HE:=hid e1;clear e1
    go_wp2_with fail
    go_ret
    exact ⟨by rw [HF.out];rfl,HB.out⟩
  ·have HF:=hid (HNO.out True (fun h=>e3 (by rw [← HL.out.2.2.2];exact h.2.2)))
   go_wp2_with fail
   go_ret
   exact ⟨by rw [HF.out];rfl,HB.out⟩
end Go.Proofs.Ytfobmfngbfbfdaa
namespace Go.Proofs.Ytfobmfngbfbfdaa
set_option linter.unusedSimpArgs false
set_option linter.unusedVariables false
open Go.RowKit
theorem atEnd_no {ar:Int} {rows:List (List Int)} {low high pos:List Int} (h:validIt ar rows low high pos=false):atEndF ar rows low high pos=false:=by simp [atEndF,h]
theorem atEnd_nil {ar:Int} {rows:List (List Int)} {low high pos:List Int} (h:pos.length=0):atEndF ar rows low high pos=false:=by simp [atEndF,h]
theorem atEnd_yes {ar:Int} {rows:List (List Int)} {low high pos:List Int} (h:validIt ar rows low high pos=true) (h0:0<pos.length):atEndF ar rows low high pos=decide (ix pos (pos.length - 1)=ix high (pos.length - 1)):=by
 simp [atEndF,h,h0]
set_option maxRecDepth 100000 in
set_option maxHeartbeats 6400000 in
theorem implAtEnd {fz:Bool} {lo hi:Nat} (ar:Int) (a:Option Addr) (n c:Nat) (rows:List (List Int)) (la:Option Addr) (ln lc:Nat) (lw:List Int) (ga:Option Addr) (gn gc:Nat) (gh:List Int) (pa:Option Addr) (pn pc:Nat) (ps:List Int) (w:World)
 (hI:IterA fz lo hi w ar a n c rows la ln lc lw ga gn gc gh pa pn pc ps) (hh:hi≤w.heap.size) :
 Calls Try.prog 12 #[iterV ar a n c la ln lc ga gn gc pa pn pc] w (Leaves w (.bool (atEndF ar rows lw gh ps))):=by
 have hl3:=hI.2.2.1.len
 have hl4:=hI.2.2.2.len
 have hs4:=hI.2.2.2.small
 have HL:=hid (And.intro hl3 hl4);clear hl3 hl4
 have HI:=hid hI;clear hI
 obtain ⟨W,hW⟩:∃ W,W=w.alloc (.cells #[.int .i64 ar,.slice a n c,.slice la ln lc,.slice ga gn gc,.slice pa pn pc] 29):=⟨_,rfl⟩
 have hBW:Below w.heap.size w W:=by rw [hW];exact belA
 have hz:w.heap.size<W.heap.size:=by rw [hW];simp
 have c0:∀ x:Later W.heap.size W,x.w.cell? ⟨w.heap.size,0,none⟩=some (.int .i64 ar):=fun x=>x.cell (by rw [hW];simp) hz
 have c1:∀ x:Later W.heap.size W,x.w.cell? ⟨w.heap.size,1,none⟩=some (.slice a n c):=fun x=>x.cell (by rw [hW];simp) hz
 have c2:∀ x:Later W.heap.size W,x.w.cell? ⟨w.heap.size,2,none⟩=some (.slice la ln lc):=fun x=>x.cell (by rw [hW];simp) hz
 have c3:∀ x:Later W.heap.size W,x.w.cell? ⟨w.heap.size,3,none⟩=some (.slice ga gn gc):=fun x=>x.cell (by rw [hW];simp) hz
 have c4:∀ x:Later W.heap.size W,x.w.cell? ⟨w.heap.size,4,none⟩=some (.slice pa pn pc):=fun x=>x.cell (by rw [hW];simp) hz
 have hIW:=beIter HI.out hBW hh
 obtain ⟨vb,hvb⟩:∃ vb,validIt ar rows lw gh ps=vb:=⟨_,rfl⟩
 have HVB:=hid hvb;clear hvb
 have HC:=hid (fun x:Later W.heap.size W=>later_of x (Nat.le_refl _) (by have:=implValidIt ar a n c rows la ln lc lw ga gn gc gh pa pn pc ps x.w (beIter hIW x.be (by omega)) (by have:=x.size;omega);rwa [HVB.out] at this))
 have HW:=hid (And.intro hW (And.intro hBW hIW));clear hW hBW hIW
 cases vb with
 | false =>
  have HF:=hid (atEnd_no HVB.out)
  go_enter Try.func12,Try.ntmps12
  go_upto_region 2 with fail
  rw [← HW.out.1]
  refine wp_region_later (B:=W.heap.size) (w0:=W) (by kernel_rfl) (by kernel_rfl) (Below.refl _ _) ?_
  repeat (any_goals (first | go_big_quiet_step (((go_at_call 11;exact HC.out _))) | quiet_step (((go_at_call 11;exact HC.out _)))))
  refine wpQuiet_nil ?_
  intro _ hw'
  obtain ⟨nq,hw''⟩:=hw'
  subst hw''
  have HQ:=hid nq.be
  generalize nq.w=wq at *
  go_wp2_with fail
  go_ret
  exact ⟨by rw [HF.out];rfl,HW.out.2.1.trans (HQ.out.mono (by omega))⟩
 | true =>
  by_cases hp:pn=0
  ·have HF:=hid (atEnd_nil (ar:=ar) (rows:=rows) (low:=lw) (high:=gh) (pos:=ps) (by rw [HL.out.2];exact hp))
   subst hp
   go_enter Try.func12,Try.ntmps12
   go_upto_region 2 with fail
   rw [← HW.out.1]
   refine wp_region_later (B:=W.heap.size) (w0:=W) (by kernel_rfl) (by kernel_rfl) (Below.refl _ _) ?_
   repeat (any_goals (first | go_big_quiet_step (((go_at_call 11;exact HC.out _))) | quiet_step (((go_at_call 11;exact HC.out _)))))
   refine wpQuiet_nil ?_
   intro _ hw'
   obtain ⟨nq,hw''⟩:=hw'
   subst hw''
   have HQ:=hid nq.be
   generalize nq.w=wq at *
   go_wp2_with fail
   go_ret
   exact ⟨by rw [HF.out];rfl,HW.out.2.1.trans (HQ.out.mono (by omega))⟩
  ·have hv:=validIt_out HVB.out
   have hg:gn=pn:=by have h1:=hv.2.2.1;rw [HL.out.1,HL.out.2] at h1;exact h1
   obtain ⟨l,rfl⟩:∃ l,pn=l+1:=⟨pn - 1,by omega⟩
   have HF:=hid (atEnd_yes HVB.out (by rw [HL.out.2];omega))
   obtain ⟨gb,go',rfl,d2,_⟩:=intsAt HW.out.2.2.2.2.1 (show l<gn by omega)
   obtain ⟨pb,po',rfl,d3,_⟩:=intsAt HW.out.2.2.2.2.2 (show l<l+1 by omega)
   have hgb:=World.block_lt_of_cell? _ _ d2
   have hpb:=World.block_lt_of_cell? _ _ d3
   have d2':∀ x:Later W.heap.size W,x.w.cell? ⟨gb,go'+l,none⟩=some (.int .i64 (ix gh l)):=fun x=>x.cell d2 hgb
   have d3':∀ x:Later W.heap.size W,x.w.cell? ⟨pb,po'+l,none⟩=some (.int .i64 (ix ps l)):=fun x=>x.cell d3 hpb
   have hw1:IntKind.i64.wrap ((l:Int)+1 - 1)=l:=by rw [show (l:Int)+1 - 1=l by omega];exact IntWalk.i64_in _ (by omega)
   have hlg:(l:Int)<(gn:Int):=by omega
   have hll:(l:Int)<(l:Int)+1:=by omega
   clear d2 d3
   generalize hx:ix ps l=x at *
   generalize hy:ix gh l=y at *
   have HX:=hid (And.intro hx hy);clear hx hy
   have HV:=hid (And.intro hv hg);clear hv hg
   by_cases he:x=y
   ·have hb:(x == y)=true:=by simp [he]
    have HE:=hid he;clear he
    go_enter Try.func12,Try.ntmps12
    go_upto_region 2 with fail
    rw [← HW.out.1]
    refine wp_region_later (B:=W.heap.size) (w0:=W) (by kernel_rfl) (by kernel_rfl) (Below.refl _ _) ?_
    repeat (any_goals (first | go_big_quiet_step (((go_at_call 11;exact HC.out _))) | quiet_step (((go_at_call 11;exact HC.out _)))))
    refine wpQuiet_nil ?_
    intro _ hw'
    obtain ⟨nq,hw''⟩:=hw'
    subst hw''
    have HQ:=hid nq.be
    generalize nq.w=wq at *
    go_wp2_with fail
    go_ret
    exact ⟨by rw [HF.out,HL.out.2];simp only [Nat.add_sub_cancel];rw [HX.out.1,HX.out.2,HE.out];simp,HW.out.2.1.trans (HQ.out.mono (by omega))⟩
   ·have hb:(x == y)=false:=by simp [he]
    have HE:=hid he;clear he
    go_enter Try.func12,Try.ntmps12
    go_upto_region 2 with fail
    rw [← HW.out.1]
    refine wp_region_later (B:=W.heap.size) (w0:=W) (by kernel_rfl) (by kernel_rfl) (Below.refl _ _) ?_
    repeat (any_goals (first | go_big_quiet_step (((go_at_call 11;exact HC.out _))) | quiet_step (((go_at_call 11;exact HC.out _)))))
    refine wpQuiet_nil ?_
    intro _ hw'
    obtain ⟨nq,hw''⟩:=hw'
    subst hw''
    have HQ:=hid nq.be
    generalize nq.w=wq at *
    go_wp2_with fail
    go_ret
    exact ⟨by rw [HF.out,HL.out.2];simp only [Nat.add_sub_cancel];rw [HX.out.1,HX.out.2];simp [HE.out],HW.out.2.1.trans (HQ.out.mono (by omega))⟩
set_option maxRecDepth 100000 in
set_option maxHeartbeats 6400000 in
theorem specAtEnd {fz:Bool} {lo hi:Nat} (ar:Int) (a:Option Addr) (n c:Nat) (rows:List (List Int)) (la:Option Addr) (ln lc:Nat) (lw:List Int) (ga:Option Addr) (gn gc:Nat) (gh:List Int) (pa:Option Addr) (pn pc:Nat) (ps:List Int) (w:World)
 (hI:IterA fz lo hi w ar a n c rows la ln lc lw ga gn gc gh pa pn pc ps) (hh:hi≤w.heap.size) :
 Calls Try.prog 30 #[iterV ar a n c la ln lc ga gn gc pa pn pc] w (Leaves w (.bool (atEndF ar rows lw gh ps))):=by
 have hl3:=hI.2.2.1.len
 have hl4:=hI.2.2.2.len
 have hs4:=hI.2.2.2.small
 have HL:=hid (And.intro hl3 hl4);clear hl3 hl4
 have HI:=hid hI;clear hI
 obtain ⟨W,hW⟩:∃ W,W=w.alloc (.cells #[.int .i64 ar,.slice a n c,.slice la ln lc,.slice ga gn gc,.slice pa pn pc] 29):=⟨_,rfl⟩
 have hBW:Below w.heap.size w W:=by rw [hW];exact belA
 have hz:w.heap.size<W.heap.size:=by rw [hW];simp
 have c0:∀ x:Later W.heap.size W,x.w.cell? ⟨w.heap.size,0,none⟩=some (.int .i64 ar):=fun x=>x.cell (by rw [hW];simp) hz
 have c1:∀ x:Later W.heap.size W,x.w.cell? ⟨w.heap.size,1,none⟩=some (.slice a n c):=fun x=>x.cell (by rw [hW];simp) hz
 have c2:∀ x:Later W.heap.size W,x.w.cell? ⟨w.heap.size,2,none⟩=some (.slice la ln lc):=fun x=>x.cell (by rw [hW];simp) hz
 have c3:∀ x:Later W.heap.size W,x.w.cell? ⟨w.heap.size,3,none⟩=some (.slice ga gn gc):=fun x=>x.cell (by rw [hW];simp) hz
 have c4:∀ x:Later W.heap.size W,x.w.cell? ⟨w.heap.size,4,none⟩=some (.slice pa pn pc):=fun x=>x.cell (by rw [hW];simp) hz
 have hIW:=beIter HI.out hBW hh
 obtain ⟨vb,hvb⟩:∃ vb,validIt ar rows lw gh ps=vb:=⟨_,rfl⟩
 have HVB:=hid hvb;clear hvb
 have HC:=hid (fun x:Later W.heap.size W=>later_of x (Nat.le_refl _) (by have:=specValidIt ar a n c rows la ln lc lw ga gn gc gh pa pn pc ps x.w (beIter hIW x.be (by omega)) (by have:=x.size;omega);rwa [HVB.out] at this))
 have HW:=hid (And.intro hW (And.intro hBW hIW));clear hW hBW hIW
 cases vb with
 | false =>
  have HF:=hid (atEnd_no HVB.out)
  go_enter Try.func30,Try.ntmps30
  go_upto_region 2 with fail
  rw [← HW.out.1]
  refine wp_region_later (B:=W.heap.size) (w0:=W) (by kernel_rfl) (by kernel_rfl) (Below.refl _ _) ?_
  repeat (any_goals (first | go_big_quiet_step (((go_at_call 16;exact HC.out _))) | quiet_step (((go_at_call 16;exact HC.out _)))))
  refine wpQuiet_nil ?_
  intro _ hw'
  obtain ⟨nq,hw''⟩:=hw'
  subst hw''
  have HQ:=hid nq.be
  generalize nq.w=wq at *
  go_wp2_with fail
  go_ret
  exact ⟨by rw [HF.out];rfl,HW.out.2.1.trans (HQ.out.mono (by omega))⟩
 | true =>
  by_cases hp:pn=0
  ·have HF:=hid (atEnd_nil (ar:=ar) (rows:=rows) (low:=lw) (high:=gh) (pos:=ps) (by rw [HL.out.2];exact hp))
   subst hp
   go_enter Try.func30,Try.ntmps30
   go_upto_region 2 with fail
   rw [← HW.out.1]
   refine wp_region_later (B:=W.heap.size) (w0:=W) (by kernel_rfl) (by kernel_rfl) (Below.refl _ _) ?_
   repeat (any_goals (first | go_big_quiet_step (((go_at_call 16;exact HC.out _))) | quiet_step (((go_at_call 16;exact HC.out _)))))
   refine wpQuiet_nil ?_
   intro _ hw'
   obtain ⟨nq,hw''⟩:=hw'
   subst hw''
   have HQ:=hid nq.be
   generalize nq.w=wq at *
   go_wp2_with fail
   go_ret
   exact ⟨by rw [HF.out];rfl,HW.out.2.1.trans (HQ.out.mono (by omega))⟩
  ·have hv:=validIt_out HVB.out
   have hg:gn=pn:=by have h1:=hv.2.2.1;rw [HL.out.1,HL.out.2] at h1;exact h1
   obtain ⟨l,rfl⟩:∃ l,pn=l+1:=⟨pn - 1,by omega⟩
   have HF:=hid (atEnd_yes HVB.out (by rw [HL.out.2];omega))
   obtain ⟨gb,go',rfl,d2,_⟩:=intsAt HW.out.2.2.2.2.1 (show l<gn by omega)
   obtain ⟨pb,po',rfl,d3,_⟩:=intsAt HW.out.2.2.2.2.2 (show l<l+1 by omega)
   have hgb:=World.block_lt_of_cell? _ _ d2
   have hpb:=World.block_lt_of_cell? _ _ d3
   have d2':∀ x:Later W.heap.size W,x.w.cell? ⟨gb,go'+l,none⟩=some (.int .i64 (ix gh l)):=fun x=>x.cell d2 hgb
   have d3':∀ x:Later W.heap.size W,x.w.cell? ⟨pb,po'+l,none⟩=some (.int .i64 (ix ps l)):=fun x=>x.cell d3 hpb
   have hw1:IntKind.i64.wrap ((l:Int)+1 - 1)=l:=by rw [show (l:Int)+1 - 1=l by omega];exact IntWalk.i64_in _ (by omega)
   have hlg:(l:Int)<(gn:Int):=by omega
   have hll:(l:Int)<(l:Int)+1:=by omega
   clear d2 d3
   generalize hx:ix ps l=x at *
   generalize hy:ix gh l=y at *
   have HX:=hid (And.intro hx hy);clear hx hy
   have HV:=hid (And.intro hv hg);clear hv hg
   by_cases he:x=y
   ·have hb:(x == y)=true:=by simp [he]
    have HE:=hid he;clear he
    go_enter Try.func30,Try.ntmps30
    go_upto_region 2 with fail
    rw [← HW.out.1]
    refine wp_region_later (B:=W.heap.size) (w0:=W) (by kernel_rfl) (by kernel_rfl) (Below.refl _ _) ?_
    repeat (any_goals (first | go_big_quiet_step (((go_at_call 16;exact HC.out _))) | quiet_step (((go_at_call 16;exact HC.out _)))))
    refine wpQuiet_nil ?_
    intro _ hw'
    obtain ⟨nq,hw''⟩:=hw'
    subst hw''
    have HQ:=hid nq.be
    generalize nq.w=wq at *
    go_wp2_with fail
    go_ret
    exact ⟨by rw [HF.out,HL.out.2];simp only [Nat.add_sub_cancel];rw [HX.out.1,HX.out.2,HE.out];simp,HW.out.2.1.trans (HQ.out.mono (by omega))⟩
   ·have hb:(x == y)=false:=by simp [he]
    have HE:=hid he;clear he
    go_enter Try.func30,Try.ntmps30
    go_upto_region 2 with fail
    rw [← HW.out.1]
    refine wp_region_later (B:=W.heap.size) (w0:=W) (by kernel_rfl) (by kernel_rfl) (Below.refl _ _) ?_
    repeat (any_goals (first | go_big_quiet_step (((go_at_call 16;exact HC.out _))) | quiet_step (((go_at_call 16;exact HC.out _)))))
    refine wpQuiet_nil ?_
    intro _ hw'
    obtain ⟨nq,hw''⟩:=hw'
    subst hw''
    have HQ:=hid nq.be
    generalize nq.w=wq at *
    go_wp2_with fail
    go_ret
    exact ⟨by rw [HF.out,HL.out.2];simp only [Nat.add_sub_cancel];rw [HX.out.1,HX.out.2];simp [HE.out],HW.out.2.1.trans (HQ.out.mono (by omega))⟩
end Go.Proofs.Ytfobmfngbfbfdaa
namespace Go.Proofs.Ytfobmfngbfbfdaa
set_option linter.unusedSimpArgs false
set_option linter.unusedVariables false
open Go.RowKit
theorem stands_inv {ar:Int} {rows:List (List Int)} {low high pos:List Int} (h:validIt ar rows low high pos=false):standsF ar rows low high pos=false:=by simp [standsF,h]
theorem stands_nil {ar:Int} {rows:List (List Int)} {low high pos:List Int} (h:pos.length=0):standsF ar rows low high pos=false:=by simp [standsF,h]
theorem stands_val {ar:Int} {rows:List (List Int)} {low high pos:List Int} (h:validIt ar rows low high pos=true) (h0:0<pos.length):standsF ar rows low high pos = !atEndF ar rows low high pos:=by simp [standsF,h,h0]
noncomputable def curKey (ar:Int) (rows:List (List Int)) (low high pos:List Int):Int:=if standsF ar rows low high pos=true then kx rows (px pos (pos.length - 1)) (pos.length - 1) else 0
theorem curKey_no {ar:Int} {rows:List (List Int)} {low high pos:List Int} (h:standsF ar rows low high pos=false):curKey ar rows low high pos=0:=by simp [curKey,h]
theorem curKey_yes {ar:Int} {rows:List (List Int)} {low high pos:List Int} (h:standsF ar rows low high pos=true):curKey ar rows low high pos=kx rows (px pos (pos.length - 1)) (pos.length - 1):=by simp [curKey,h]
abbrev intBool (x:Int) (b:Bool):Value:=.tuple #[.int .i64 x,.bool b]
set_option maxRecDepth 100000 in
set_option maxHeartbeats 6400000 in
theorem implStands {fz:Bool} {lo hi:Nat} (ar:Int) (a:Option Addr) (n c:Nat) (rows:List (List Int)) (la:Option Addr) (ln lc:Nat) (lw:List Int) (ga:Option Addr) (gn gc:Nat) (gh:List Int) (pa:Option Addr) (pn pc:Nat) (ps:List Int) (w:World)
 (hI:IterA fz lo hi w ar a n c rows la ln lc lw ga gn gc gh pa pn pc ps) (hh:hi≤w.heap.size) :
 Calls Try.prog 28 #[iterV ar a n c la ln lc ga gn gc pa pn pc] w (Leaves w (.bool (standsF ar rows lw gh ps))):=by
 have hl4:=hI.2.2.2.len
 have hs4:=hI.2.2.2.small
 have HL:=hid hl4;clear hl4
 have HI:=hid hI;clear hI
 obtain ⟨vb,hvb⟩:∃ vb,validIt ar rows lw gh ps=vb:=⟨_,rfl⟩
 have HVB:=hid hvb;clear hvb
 cases vb with
 | false =>
  have HF:=hid (stands_inv HVB.out)
  go_enter Try.func28,Try.ntmps28
  go_wp2_with fail
  refine (implValidIt ar a n c rows la ln lc lw ga gn gc gh pa pn pc ps _ (beIter (B:=w.heap.size) HI.out belA hh) leA).mono ?_
  rintro e w1 ⟨rfl,hb1⟩
  rw [HVB.out]
  have hb2:Below w.heap.size w w1:=Below.trans belA (hb1.mono leA)
  have HB:=hid hb2;clear hb1 hb2
  go_wp2_with fail
  go_ret
  exact ⟨by rw [HF.out];rfl,HB.out⟩
 | true =>
  go_enter Try.func28,Try.ntmps28
  go_wp2_with fail
  refine (implValidIt ar a n c rows la ln lc lw ga gn gc gh pa pn pc ps _ (beIter (B:=w.heap.size) HI.out belA hh) leA).mono ?_
  rintro e w1 ⟨rfl,hb1⟩
  rw [HVB.out]
  have hb2:Below w.heap.size w w1:=Below.trans belA (hb1.mono leA)
  have c0:w1.cell? ⟨w.heap.size,0,none⟩=some (.int .i64 ar):=(by rw [(bcell hb1).1 _ _ (by first | omega | (simp;done) | (simp;omega))];first | with_reducible assumption | (go_simp;done) | assumption | (simp [World.cell?];done))
  have c1:w1.cell? ⟨w.heap.size,1,none⟩=some (.slice a n c):=(by rw [(bcell hb1).1 _ _ (by first | omega | (simp;done) | (simp;omega))];first | with_reducible assumption | (go_simp;done) | assumption | (simp [World.cell?];done))
  have c2:w1.cell? ⟨w.heap.size,2,none⟩=some (.slice la ln lc):=(by rw [(bcell hb1).1 _ _ (by first | omega | (simp;done) | (simp;omega))];first | with_reducible assumption | (go_simp;done) | assumption | (simp [World.cell?];done))
  have c3:w1.cell? ⟨w.heap.size,3,none⟩=some (.slice ga gn gc):=(by rw [(bcell hb1).1 _ _ (by first | omega | (simp;done) | (simp;omega))];first | with_reducible assumption | (go_simp;done) | assumption | (simp [World.cell?];done))
  have c4:w1.cell? ⟨w.heap.size,4,none⟩=some (.slice pa pn pc):=(by rw [(bcell hb1).1 _ _ (by first | omega | (simp;done) | (simp;omega))];first | with_reducible assumption | (go_simp;done) | assumption | (simp [World.cell?];done))
  have hz:=hb2.size
  have HB:=hid hb2;clear hb1 hb2
  by_cases hp:pn=0
  ·have HF:=hid (stands_nil (ar:=ar) (rows:=rows) (low:=lw) (high:=gh) (pos:=ps) (by rw [HL.out];exact hp))
   subst hp
   go_wp2_with fail
   go_ret
   exact ⟨by rw [HF.out];rfl,HB.out⟩
  ·have HF:=hid (stands_val HVB.out (by rw [HL.out];omega))
   have hp0:0<pn:=by omega
   obtain ⟨eb,heb⟩:∃ eb,atEndF ar rows lw gh ps=eb:=⟨_,rfl⟩
   have HEB:=hid heb;clear heb
   go_wp2_with fail
   refine (implAtEnd ar a n c rows la ln lc lw ga gn gc gh pa pn pc ps _ (beIter HI.out HB.out hh) (by omega)).mono ?_
   rintro e w2 ⟨rfl,hb3⟩
   rw [HEB.out]
   have HB2:=hid (Below.calm HB.out hb3);clear hb3
   cases eb
   all_goals
    go_wp2_with fail
    go_ret
    exact ⟨by rw [HF.out,HEB.out];rfl,HB2.out⟩
set_option maxRecDepth 100000 in
set_option maxHeartbeats 6400000 in
theorem implCurKey {fz:Bool} {lo hi:Nat} (ar:Int) (a:Option Addr) (n c:Nat) (rows:List (List Int)) (la:Option Addr) (ln lc:Nat) (lw:List Int) (ga:Option Addr) (gn gc:Nat) (gh:List Int) (pa:Option Addr) (pn pc:Nat) (ps:List Int) (w:World)
 (hI:IterA fz lo hi w ar a n c rows la ln lc lw ga gn gc gh pa pn pc ps) (hh:hi≤w.heap.size) :
 Calls Try.prog 10 #[iterV ar a n c la ln lc ga gn gc pa pn pc] w (Leaves w (intBool (curKey ar rows lw gh ps) (standsF ar rows lw gh ps))):=by
 have hl4:=hI.2.2.2.len
 have hl1:=hI.1.2.len
 have hs1:=hI.1.2.small
 have hs4:=hI.2.2.2.small
 have HL:=hid (And.intro hl1 hl4);clear hl4 hl1
 have HI:=hid hI;clear hI
 obtain ⟨sb,hsb⟩:∃ sb,standsF ar rows lw gh ps=sb:=⟨_,rfl⟩
 have HST:=hid hsb
 rw [hsb]
 clear hsb
 cases sb with
 | false =>
  have HF:=hid (curKey_no HST.out)
  go_enter Try.func10,Try.ntmps10
  go_wp2_with fail
  refine (implStands ar a n c rows la ln lc lw ga gn gc gh pa pn pc ps _ (beIter (B:=w.heap.size) HI.out belA hh) leA).mono ?_
  rintro e w1 ⟨rfl,hb1⟩
  rw [HST.out]
  have hb2:Below w.heap.size w w1:=Below.trans belA (hb1.mono leA)
  have HB:=hid hb2;clear hb1 hb2
  go_wp2_with fail
  go_ret2
  exact ⟨by rw [HF.out];rfl,HB.out⟩
 | true =>
  go_enter Try.func10,Try.ntmps10
  go_wp2_with fail
  refine (implStands ar a n c rows la ln lc lw ga gn gc gh pa pn pc ps _ (beIter (B:=w.heap.size) HI.out belA hh) leA).mono ?_
  rintro e w1 ⟨rfl,hb1⟩
  rw [HST.out]
  have hb2:Below w.heap.size w w1:=Below.trans belA (hb1.mono leA)
  have c0:w1.cell? ⟨w.heap.size,0,none⟩=some (.int .i64 ar):=(by rw [(bcell hb1).1 _ _ (by first | omega | (simp;done) | (simp;omega))];first | with_reducible assumption | (go_simp;done) | assumption | (simp [World.cell?];done))
  have c1:w1.cell? ⟨w.heap.size,1,none⟩=some (.slice a n c):=(by rw [(bcell hb1).1 _ _ (by first | omega | (simp;done) | (simp;omega))];first | with_reducible assumption | (go_simp;done) | assumption | (simp [World.cell?];done))
  have c2:w1.cell? ⟨w.heap.size,2,none⟩=some (.slice la ln lc):=(by rw [(bcell hb1).1 _ _ (by first | omega | (simp;done) | (simp;omega))];first | with_reducible assumption | (go_simp;done) | assumption | (simp [World.cell?];done))
  have c3:w1.cell? ⟨w.heap.size,3,none⟩=some (.slice ga gn gc):=(by rw [(bcell hb1).1 _ _ (by first | omega | (simp;done) | (simp;omega))];first | with_reducible assumption | (go_simp;done) | assumption | (simp [World.cell?];done))
  have c4:w1.cell? ⟨w.heap.size,4,none⟩=some (.slice pa pn pc):=(by rw [(bcell hb1).1 _ _ (by first | omega | (simp;done) | (simp;omega))];first | with_reducible assumption | (go_simp;done) | assumption | (simp [World.cell?];done))
  have hz:=hb2.size
  have HB:=hid hb2;clear hb1 hb2
  obtain ⟨hv,l,hpn,hpx,hgx,hlt,hbn,hla,hrl⟩:=stands_out HST.out
  have hpn':pn=l+1:=by rw [← HL.out.2];exact hpn
  subst hpn'
  have HKX:=hid (curKey_yes HST.out)
  obtain ⟨p,hp⟩:∃ p,px ps l=p:=⟨_,rfl⟩
  rw [hp] at hpx hlt
  have hpn2:p<n:=by have h1:=HL.out.1;omega
  have hI1:=beIter HI.out HB.out hh
  obtain ⟨b,off,rfl⟩:=RowsA.some hI1.1.2 (show 0<n by omega)
  obtain ⟨b2,off2,rn,rc,y0,y1,y2,y3,y4,_⟩:=rowsKey (k:=l) hI1.1.2 hpn2 (by have:=hrl p (by have h1:=HL.out.1;omega);omega)
  obtain ⟨pb,po',rfl,d3,_⟩:=intsAt hI1.2.2.2 (show l<l+1 by omega)
  rw [hpx] at d3
  have hw1:IntKind.i64.wrap ((l:Int)+1 - 1)=l:=by rw [show (l:Int)+1 - 1=l by omega];exact IntWalk.i64_in _ (by omega)
  have hi1:(l:Int)<(l:Int)+1:=by omega
  have hi2:(p:Int)<(n:Int):=by omega
  have hi3:(l:Int)<(rn:Int):=by omega
  generalize hkk:kx rows p l=kk at *
  have HF:Hid (curKey ar rows lw gh ps=kk):=hid (by rw [HKX.out,hpn];simp only [Nat.add_sub_cancel];rw [hp];exact hkk)
  have HQ:=hid (And.intro hI1 (And.intro hpx (And.intro hp (And.intro hkk (And.intro hgx (And.intro hrl (And.intro hpn (And.intro hv hbn))))))));clear hI1 hpx hp hkk hgx hrl hpn hv hbn
  go_wp2_with fail
  go_quiet (fail)
  go_wp2_with fail
  go_ret2
  exact ⟨by rw [HF.out];rfl,below_drewN HB.out _⟩
end Go.Proofs.Ytfobmfngbfbfdaa
namespace Go.Proofs.Ytfobmfngbfbfdaa
set_option linter.unusedSimpArgs false
set_option linter.unusedVariables false
end Go.Proofs.Ytfobmfngbfbfdaa
namespace Go.Proofs.Ytfobmfngbfbfdaa
set_option linter.unusedSimpArgs false
set_option linter.unusedVariables false
open Go.RowKit
def ValsA (lo hi:Nat) (w:World) (a:Option Addr) (n c:Nat) (vs:List Value):Prop :=
 vs.length=n∧n≤c∧c≤maxLen∧(∀ u∈vs,u.oneCell'=true)∧(0<n→∃ b off,a=some ⟨b,off,none⟩∧lo≤b∧b<hi∧∀ i u,vs[i]? = some u→w.cell? ⟨b,off+i,none⟩=some u)∧(a=none→c=0)
section
variable {lo hi:Nat} {w w':World} {a:Option Addr} {n c:Nat} {vs:List Value}
theorem ValsA.len (h:ValsA lo hi w a n c vs):vs.length=n:=h.1
theorem ValsA.keep (h:ValsA lo hi w a n c vs) (hk:Keeps lo hi w w'):ValsA lo hi w' a n c vs:=by
 obtain ⟨h1,h2,h3,h4,h5,h6⟩:=h
 refine ⟨h1,h2,h3,h4,fun hn=>?_,h6⟩
 obtain ⟨b,off,ha,hl,hb,hc⟩:=h5 hn
 exact ⟨b,off,ha,hl,hb,fun i u hu=>by rw [World.cell?_of_block (w:=w) (hk b hl hb)];exact hc i u hu⟩
theorem ValsA.wide {lo' hi':Nat} (h:ValsA lo hi w a n c vs) (h1:lo'≤lo) (h2:hi≤hi'):ValsA lo' hi' w a n c vs:=by
 obtain ⟨g1,g2,g3,g4,g5,g6⟩:=h
 refine ⟨g1,g2,g3,g4,fun hn=>?_,g6⟩
 obtain ⟨b,off,ha,hl,hb,hc⟩:=g5 hn
 exact ⟨b,off,ha,by omega,by omega,hc⟩
theorem ValsA.drewN (h:ValsA lo hi w a n c vs) (k:Nat):ValsA lo hi (w.drewN k) a n c vs:=h
theorem ValsA.open (h:ValsA lo hi w a n c vs) (hn:0<n):∃ b off,a=some ⟨b,off,none⟩∧lo≤b∧b<hi∧∀ i u,vs[i]? = some u→w.cell? ⟨b,off+i,none⟩=some u:=h.2.2.2.2.1 hn
end
def OwnV (e:TypeId) (base:Nat) (w:World) (a:Option Addr) (n c:Nat) (vs:List Value):Prop:=w.ownsRow base e 1 (.slice a n c) n vs∧∀ u∈vs,u.oneCell'=true
theorem OwnV.len {e:TypeId} {base:Nat} {w:World} {a:Option Addr} {n c:Nat} {vs:List Value} (h:OwnV e base w a n c vs):vs.length=n:=by
 have:=h.1.1;omega
theorem OwnV.vals {e:TypeId} {base:Nat} {w:World} {a:Option Addr} {n c:Nat} {vs:List Value} (h:OwnV e base w a n c vs):ValsA base w.heap.size w a n c vs:=by
 have hlen:=h.len
 obtain ⟨ho,h1c⟩:=h
 have ho':=ho
 obtain ⟨h1,h2⟩:=ho
 rcases h2 with ⟨h2,h3⟩ | ⟨g,cap,cur,hv,hb,hg,hnc,hcm,hcs,htake⟩
 ·simp only [Value.slice.injEq] at h2
  obtain ⟨rfl,rfl,rfl⟩:=h2
  exact ⟨hlen,Nat.zero_le _,by simp [maxLen],h1c,fun h=>by omega,fun _=>rfl⟩
 ·simp only [Value.slice.injEq] at hv
  obtain ⟨rfl,_,rfl⟩:=hv
  refine ⟨hlen,hnc,hcm,h1c,fun _=>⟨g,0,rfl,hb,(Array.getElem?_eq_some_iff.1 hg).1,fun i u hu=>?_⟩,fun h=>(by cases h)⟩
  have h5:=ho'.cells (g:=g) rfl i u hu
  rwa [Addr.add_lit] at h5
theorem OwnV.keep {e:TypeId} {base:Nat} {w w':World} {a:Option Addr} {n c:Nat} {vs:List Value} (h:OwnV e base w a n c vs) (hk:Keeps base w.heap.size w w'):OwnV e base w' a n c vs:=by
 obtain ⟨⟨h1,h2⟩,h64⟩:=h
 refine ⟨⟨h1,?_⟩,h64⟩
 rcases h2 with h2 | ⟨g,cap,cur,hv,hb,hg,rest⟩
 ·exact .inl h2
 ·exact .inr ⟨g,cap,cur,hv,hb,by rw [hk g hb (Array.getElem?_eq_some_iff.1 hg).1];exact hg,rest⟩
theorem OwnV.alloc {e:TypeId} {base:Nat} {w:World} {a:Option Addr} {n c:Nat} {vs:List Value} (h:OwnV e base w a n c vs) (o:Obj):OwnV e base (w.alloc o) a n c vs:=⟨h.1.alloc o,h.2⟩
theorem OwnV.drewN {e:TypeId} {base:Nat} {w:World} {a:Option Addr} {n c:Nat} {vs:List Value} (h:OwnV e base w a n c vs) (k:Nat):OwnV e base (w.drewN k) a n c vs:=h
theorem ownV_nil (e:TypeId) (w:World) (base:Nat):OwnV e base w none 0 0 []:=⟨World.ownsRow_nil ..,fun _ h=>(by cases h)⟩
theorem vals_one (w:World) (g:Nat) (e:TypeId) (v:Value) (hv:v.oneCell'=true) (lo hi:Nat) (h1:lo≤g) (h2:g<hi) (hg:w.heap[g]? = some (.cells #[v] e (0,0))):ValsA lo hi w (some ⟨g,0,none⟩) 1 1 [v]:=by
 refine ⟨rfl,Nat.le_refl _,by simp [maxLen],by simpa using hv,fun _=>⟨g,0,rfl,h1,h2,fun i u hu=>?_⟩,fun h=>(by cases h)⟩
 match i,hu with
 | 0,hu=>cases hu;simp [World.cell?,hg]
structure Elem (t e:TypeId) (bytes:Nat):Prop where
 under:Try.prog.underlying t=some (.slice e)
 info:∃ i z,Try.prog.info? e=some i∧i.zero=some z∧i.size=1∧i.bytes=bytes∧z.cells.size=1
 small:bytes≤4096
theorem run_append_vals {t e bytes:Nat} (ht:Elem t e bytes) {lo hi:Nat} {w:World} (ty:TypeId) (base:Nat) (a1:Option Addr) (n1 c1:Nat) (vs:List Value) (hown:OwnV e base w a1 n1 c1 vs)
 (ao:Option Addr) (m c:Nat) (us:List Value) (hI:ValsA lo hi w ao m c us) (hb:n1+m≤16777216) (hbase:base≤w.heap.size) :
 ∃ a' c' w',(Builtin.append_ #[t,t] ty #[.slice a1 n1 c1,.slice ao m c]).run Try.prog w=.ok (.slice a' (n1+m) c') w'∧OwnV e base w' a' (n1+m) c' (vs ++ us)∧w.grownBy w' (Value.slice a1 n1 c1).ownBlock:=by
 obtain ⟨i0,z,hi0,hz0,hz1,hz2,hz3⟩:=ht.info
 have h1c:∀ u∈vs ++ us,u.oneCell'=true:=fun u hu=>(List.mem_append.1 hu).elim (hown.2 u) (hI.2.2.2.1 u)
 have hlen:=hI.len
 cases ao with
 | none =>
  have hc0:=hI.2.2.2.2.2 rfl
  have hm0:m=0:=by have:=hI.2.1;omega
  subst hc0;subst hm0
  have hys:us=[]:=List.eq_nil_of_length_eq_zero hlen
  subst hys
  exact ⟨a1,c1,w,run_append_owned_none (P:=Try.prog) (w:=w) base t ty e i0 1 ht.under hi0 _ n1 _ hown.1,by simpa using hown,World.grownBy.refl w _⟩
 | some ad =>
  obtain ⟨v',w',hr,hown',hgrow,_⟩:=run_append_own (P:=Try.prog) w base t ty e i0 z 1 bytes ht.under hi0 hz0 hz1 hz2 hz3 (by decide) _ n1 _ hown.1 ad m c us (by simp [hlen]) (fun j u hj=>by
   have hjm:j<m:=by have:=(List.getElem?_eq_some_iff.1 hj).1;omega
   obtain ⟨b,off,hab,_,_,hcell⟩:=hI.open (by omega)
   obtain rfl:ad=⟨b,off,none⟩:=by simpa using hab
   rw [Addr.add_lit];exact hcell j u hj) hI.2.2.2.1 (by unfold maxLen;omega) (by
    have h1:=ht.small
    have h2:(n1+m)*bytes≤16777216*4096:=Nat.mul_le_mul hb h1
    omega) hbase
  obtain ⟨a',c',rfl⟩:∃ a' c',v'=.slice a' (n1+m) c':=by
   rcases hown'.2 with ⟨rfl,hz⟩ | ⟨g,cap,cur,rfl,_⟩
   ·exact ⟨none,0,by rw [hz]⟩
   ·exact ⟨_,_,rfl⟩
  exact ⟨a',c',w',hr,⟨hown',h1c⟩,hgrow⟩
theorem wpAppV {t e bytes:Nat} (ht:Elem t e bytes) {lo hi:Nat} {w:World} {ops:Array Oper} {rest:List Oper} {o:Oper} {a:Act} {Q:Exit→Act→World→Prop} (hgd:o.guard=none) (s x:Operand)
 (ho:o.op=.call { callee:=.builtin .append,args:=#[s,x],argTypes:=#[t,t] })
 (base:Nat) (a1:Option Addr) (n1 c1:Nat) (vs:List Value) (hs:a.eval s=.slice a1 n1 c1) (hown:OwnV e base w a1 n1 c1 vs)
 (ao:Option Addr) (m c:Nat) (us:List Value) (hx:a.eval x=.slice ao m c) (hI:ValsA lo hi w ao m c us) (hb:n1+m≤16777216) (hbase:base≤w.heap.size)
 (h:∀ a' c' w',OwnV e base w' a' (n1+m) c' (vs ++ us)→w.grownBy w' (Value.slice a1 n1 c1).ownBlock→wpList Try.prog ops Q rest (a.put o.dst (.slice a' (n1+m) c')) w') :
 wpList Try.prog ops Q (o :: rest) a w:=by
 obtain ⟨a',c',w',hr,h2,h3⟩:=run_append_vals ht o.type base a1 n1 c1 vs hown ao m c us hI hb hbase
 refine wpList_plain hgd fun K hK=>?_
 unfold Oper.wp
 simp [execOp,ho,resolve,invoke,builtin,hs,hx,hr,Result.andThen]
 exact hK _ _ (h a' c' w' h2 h3)
end Go.Proofs.Ytfobmfngbfbfdaa
