/- Lemmas for the proof of FnIteration, part 13 of 22: no condition of their own. -/
import Derived.Test.YtfobmfngbfbfdaaJ7
namespace Go.Proofs.Ytfobmfngbfbfdaa
set_option linter.unusedSimpArgs false
set_option linter.unusedVariables false
open Go.RowKit
theorem intsSet {lo hi:Nat} {w:World} {b off n c:Nat} {xs:List Int} (h:IntsA true lo hi w (some ⟨b,off,none⟩) n c xs) {i:Nat} (hi':i<n) {v:Int} (hv:I64 v):IntsA true lo hi (w.setCell ⟨b,off+i,none⟩ (.int .i64 v)) (some ⟨b,off,none⟩) n c (xs.set i v):=by
 obtain ⟨h1,h2,h3,h4,h5,h6⟩:=h
 refine ⟨by simp;omega,h2,h3,fun x hx=>?_,fun hn=>?_,h6⟩
 ·rcases List.mem_or_eq_of_mem_set hx with h | rfl
  ·exact h4 x h
  ·exact hv
 ·obtain ⟨b',off',ha,hl,hb,hc⟩:=h5 hn
  simp only [Option.some.injEq,Addr.mk.injEq,and_true] at ha
  obtain ⟨rfl,rfl⟩:=ha
  refine ⟨b,off,rfl,hl,hb,fun j hj=>⟨?_,fun _=>by rw [fset_any];exact (hc j hj).2 rfl⟩⟩
  by_cases e:i=j
  ·subst e
   rw [World.cell?_setCell_same' _ _ _ (by rw [(hc i hi').1];rfl)]
   simp [ix,show i<xs.length by omega]
  ·rw [cset_off (by omega),(hc j hj).1]
   simp [ix,List.getElem?_set_ne e]
section
variable {lo hi:Nat} {w:World} {ar:Int} {a:Option Addr} {n c:Nat} {rows:List (List Int)} {la:Option Addr} {ln lc:Nat} {lw:List Int} {ga:Option Addr} {gn gc:Nat} {gh:List Int} {pa:Option Addr} {pn pc:Nat} {ps:List Int}
theorem IterS.posn (h:IterS lo hi w ar a n c rows la ln lc lw ga gn gc gh pa pn pc ps) {i:Nat} (hi':i<pn):∃ b off,pa=some ⟨b,off,none⟩∧lo≤b∧b<hi∧w.cell? ⟨b,off+i,none⟩=some (.int .i64 (ix ps i))∧w.frozen? ⟨b,off+i,none⟩=false:=by
 obtain ⟨b,off,h1,h2,h3,h4,h5⟩:=h.it.2.2.2.open (by omega)
 exact ⟨b,off,h1,h2,h3,h4 i hi',h5 rfl i hi'⟩
theorem IterS.high (h:IterS lo hi w ar a n c rows la ln lc lw ga gn gc gh pa pn pc ps) {i:Nat} (hi':i<gn):∃ b off,ga=some ⟨b,off,none⟩∧lo≤b∧b<hi∧w.cell? ⟨b,off+i,none⟩=some (.int .i64 (ix gh i)):=by
 obtain ⟨b,off,h1,h2,h3,h4,h5⟩:=h.it.2.2.1.open (by omega)
 exact ⟨b,off,h1,h2,h3,h4 i hi'⟩
theorem IterS.setP {b off:Nat} (h:IterS lo hi w ar a n c rows la ln lc lw ga gn gc gh (some ⟨b,off,none⟩) pn pc ps) {i:Nat} (hi':i<pn) {v:Int} (hv:I64 v):IterS lo hi (w.setCell ⟨b,off+i,none⟩ (.int .i64 v)) ar a n c rows la ln lc lw ga gn gc gh (some ⟨b,off,none⟩) pn pc (ps.set i v):=by
 obtain ⟨h64,s0,t0,s1,t1,s2,t2,s3,t3,p0,p1,p2,p3,hA⟩:=h
 obtain ⟨b',off',ha,hl,hb,_⟩:=p3.open (by omega)
 simp only [Option.some.injEq,Addr.mk.injEq,and_true] at ha
 obtain ⟨rfl,rfl⟩:=ha
 have hA':=hA
 unfold Apart4 at hA'
 exact ⟨h64,s0,t0,s1,t1,s2,t2,s3,t3,SepA.keep intsQOK p0 (Keeps.sc (Keeps.refl _ _ _) (by omega) _),p1.keep (Keeps.sc (Keeps.refl _ _ _) (by omega) _),p2.keep (Keeps.sc (Keeps.refl _ _ _) (by omega) _),intsSet p3 hi' hv,hA⟩
theorem IterS.ne {b off b' off':Nat} (h:IterS lo hi w ar a n c rows la ln lc lw (some ⟨b,off,none⟩) gn gc gh (some ⟨b',off',none⟩) pn pc ps) (h1:0<gn) (h2:0<pn):b ≠ b':=by
 obtain ⟨h64,s0,t0,s1,t1,s2,t2,s3,t3,p0,p1,p2,p3,hA⟩:=h
 obtain ⟨b1,o1,e1,l1,u1,_⟩:=p2.open h1
 obtain ⟨b2,o2,e2,l2,u2,_⟩:=p3.open h2
 simp only [Option.some.injEq,Addr.mk.injEq,and_true] at e1 e2
 obtain ⟨rfl,rfl⟩:=e1
 obtain ⟨rfl,rfl⟩:=e2
 unfold Apart4 at hA
 omega
theorem IterS.drewN (h:IterS lo hi w ar a n c rows la ln lc lw ga gn gc gh pa pn pc ps) (k:Nat):IterS lo hi (w.drewN k) ar a n c rows la ln lc lw ga gn gc gh pa pn pc ps:=kpIterS h (Keeps.drewN _ _ _ _)
end
noncomputable def nextP (ar:Int) (rows:List (List Int)) (lw gh ps:List Int):List Int:=if standsF ar rows lw gh ps=true then ps.set (ps.length - 1) (grpEnd rows (ps.length - 1) (px ps (ps.length - 1)) (bnd rows ps (ps.length - 1)).2:Nat) else ps
theorem nextP_no {ar:Int} {rows:List (List Int)} {lw gh ps:List Int} (h:standsF ar rows lw gh ps=false):nextP ar rows lw gh ps=ps:=by simp [nextP,h]
theorem nextP_yes {ar:Int} {rows:List (List Int)} {lw gh ps:List Int} (h:standsF ar rows lw gh ps=true) {l:Nat} (hl:ps.length=l+1):nextP ar rows lw gh ps=ps.set l (grpEnd rows l (px ps l) (bnd rows ps l).2:Nat):=by simp [nextP,h,hl]
noncomputable def seekEnd (rows:List (List Int)) (l:Nat) (v:Int) (p h:Nat):Nat:=firstIx (fun i=>p≤i∧v≤kx rows i l) h
theorem seekEnd_eq {rows:List (List Int)} {l p h m:Nat} {v:Int} (hm:m≤h) (hpm:p≤m) (hlt:∀ i,p≤i→i<m→kx rows i l<v) (he:m<h→v≤kx rows m l):seekEnd rows l v p h=m:=by
 unfold seekEnd
 by_cases g:m<h
 ·exact firstIx_eq (p:=fun i=>p≤i∧v≤kx rows i l) g ⟨hpm,he g⟩ fun j hj hn=>by have:=hlt j hn.1 hj;have:=hn.2;omega
 ·obtain rfl:m=h:=by omega
  exact firstIx_none fun i hi' hn=>by have:=hlt i hn.1 hi';have:=hn.2;omega
noncomputable def seekP (ar:Int) (rows:List (List Int)) (lw gh ps:List Int) (v:Int):List Int:=if standsF ar rows lw gh ps=true then ps.set (ps.length - 1) (seekEnd rows (ps.length - 1) v (px ps (ps.length - 1)) (bnd rows ps (ps.length - 1)).2:Nat) else ps
theorem seekP_no {ar:Int} {rows:List (List Int)} {lw gh ps:List Int} {v:Int} (h:standsF ar rows lw gh ps=false):seekP ar rows lw gh ps v=ps:=by simp [seekP,h]
theorem seekP_yes {ar:Int} {rows:List (List Int)} {lw gh ps:List Int} {v:Int} (h:standsF ar rows lw gh ps=true) {l:Nat} (hl:ps.length=l+1):seekP ar rows lw gh ps v=ps.set l (seekEnd rows l v (px ps l) (bnd rows ps l).2:Nat):=by simp [seekP,h,hl]
set_option maxRecDepth 100000 in
set_option maxHeartbeats 3200000 in
theorem specBehind {fz:Bool} {lo hi:Nat} (ar:Int) (a:Option Addr) (n c:Nat) (rows:List (List Int)) (la:Option Addr) (ln lc:Nat) (lw:List Int) (ga:Option Addr) (gn gc:Nat) (gh:List Int) (pa:Option Addr) (pc:Nat) (ps:List Int) (l p h:Nat) (w:World)
 (hI:IterA fz lo hi w ar a n c rows la ln lc lw ga gn gc gh pa (l+1) pc ps) (hh:hi≤w.heap.size) (hg:l<gn) (e2:ix gh l=h) (e3:ix ps l=p) (hph:p<h) (hhn:h≤n) (hrow:∀ i,i<n→l<(rx rows i).length) :
 Calls Try.prog 37 #[iterV ar a n c la ln lc ga gn gc pa (l+1) pc] w (Leaves w (.int .i64 ((grpEnd rows l p h:Nat):Int))):=by
 have hs1:=hI.1.2.small
 have hs3:=hI.2.2.1.small
 have hs4:=hI.2.2.2.small
 have HR:=hid hrow;clear hrow
 obtain ⟨W,hW⟩:∃ W,W=w.alloc (.cells #[.int .i64 ar,.slice a n c,.slice la ln lc,.slice ga gn gc,.slice pa (l+1) pc] 29):=⟨_,rfl⟩
 have hBW:Below w.heap.size w W:=by rw [hW];exact belA
 have hI1:=beIter hI hBW hh
 have c0:W.cell? ⟨w.heap.size,0,none⟩=some (.int .i64 ar):=by rw [hW];simp
 have c1:W.cell? ⟨w.heap.size,1,none⟩=some (.slice a n c):=by rw [hW];simp
 have c2:W.cell? ⟨w.heap.size,2,none⟩=some (.slice la ln lc):=by rw [hW];simp
 have c3:W.cell? ⟨w.heap.size,3,none⟩=some (.slice ga gn gc):=by rw [hW];simp
 have c4:W.cell? ⟨w.heap.size,4,none⟩=some (.slice pa (l+1) pc):=by rw [hW];simp
 have HBW:=hid hBW;clear hBW
 have HI:=hid hI;clear hI
 obtain ⟨gb,go',rfl,d2,_⟩:=intsAt hI1.2.2.1 hg
 obtain ⟨pb,po',rfl,d3,i3⟩:=intsAt hI1.2.2.2 (show l<l+1 by omega)
 rw [e2] at d2
 rw [e3] at d3
 have HX:=hid (And.intro e2 e3);clear e2 e3 i3
 have hA:=hI1.1.2
 have HA:=hid hA
 clear hI1 hA
 obtain ⟨b,off,rfl⟩:=RowsA.some HA.out (show 0<n by omega)
 obtain ⟨b2,off2,rn,rc,y0,y1,y2,y3,y4,_⟩:=rowsKey HA.out (show p<n by omega) (HR.out p (by omega))
 generalize hv:kx rows p l=v at *
 have HV:=hid hv;clear hv
 have hw1:IntKind.i64.wrap ((l:Int)+1 - 1)=l:=by rw [show (l:Int)+1 - 1=l by omega];exact IntWalk.i64_in _ (by omega)
 have hj1:(l:Int)<(gn:Int):=by omega
 have hj2:(l:Int)<(l:Int)+1:=by omega
 have hj3:(p:Int)<(n:Int):=by omega
 have hj4:(l:Int)<(rn:Int):=by omega
 have HWW:=hid hW;clear hW
 go_enter Try.func37,Try.ntmps37
 go_upto_region 1 with fail
 rw [← HWW.out]
 go_wp2_with fail
 go_loopw [4] (fun i wr=>∃ q:Nat,i=.int .i64 q∧p≤q∧q≤h∧Hid (∀ i,p≤i→i<q→kx rows i l=kx rows p l)∧(∃ m,wr=W.drewN m)) (fun i _=>h - (intOf i).toNat)
 case atStart=>exact ⟨p,rfl,Nat.le_refl _,by omega,hid (fun i h1 h2=>by omega),0,rfl⟩
 case round =>
  obtain ⟨q,rfl,hq1,hq2,HT,m,rfl⟩:=hrel
  by_cases hlt:q<h
  ·have hbg:decide ((q:Int)<(h:Int))=true:=by simp;omega
   obtain ⟨b3,off3,rn',rc',z0,z1,z2,z3,z4,_⟩:=rowsKey HA.out (show q<n by omega) (HR.out q (by omega))
   have hj5:(q:Int)<(n:Int):=by omega
   have hj6:(l:Int)<(rn':Int):=by omega
   generalize hx:kx rows q l=x at *
   have HXX:=hid hx;clear hx
   by_cases he:x=v
   ·have hb:(x == v)=true:=by simp [he]
    have HT2:Hid (∀ i,p≤i→i<q+1→kx rows i l=kx rows p l):=hid (fun i h1 h2=>by
     by_cases e:i=q
     ·subst e;rw [HXX.out,HV.out];exact he
     ·exact HT.out i h1 (by omega))
    have HE:=hid he;clear he
    go_wp2_with fail
    go_quiet (fail)
    go_wp2_with fail
    go_roundw
    case rel=>exact ⟨q+1,by go_num,by omega,by omega,HT2,_,rfl⟩
    case measure=>simp [intOf];omega
   ·have hb:(x == v)=false:=by simp [he]
    have HF:=hid (grpEnd_eq (rows:=rows) (k:=l) (p:=p) (hi:=h) hq2 hq1 HT.out (fun _=>by rw [HXX.out,HV.out];exact he))
    have HE:=hid he;clear he
    go_wp2_with fail
    go_quiet (fail)
    go_wp2_with fail
    go_ret
    exact ⟨by rw [HF.out];rfl,below_drewN (below_drewN HBW.out _) _⟩
  ·have hbg:decide ((q:Int)<(h:Int))=false:=by simp;omega
   have HF:=hid (grpEnd_eq (rows:=rows) (k:=l) (p:=p) (hi:=h) hq2 hq1 HT.out (fun h=>by omega))
   go_wp2_with fail
   go_quiet (fail)
   go_wp2_with fail
   go_ret
   exact ⟨by rw [HF.out];rfl,below_drewN (below_drewN HBW.out _) _⟩
set_option maxRecDepth 100000 in
set_option maxHeartbeats 12800000 in
theorem specNext {fz:Bool} {lo hi:Nat} (ar:Int) (a:Option Addr) (n c:Nat) (rows:List (List Int)) (la:Option Addr) (ln lc:Nat) (lw:List Int) (ga:Option Addr) (gn gc:Nat) (gh:List Int) (pa:Option Addr) (pn pc:Nat) (ps:List Int) (w:World) (hI:IterA fz lo hi w ar a n c rows la ln lc lw ga gn gc gh pa pn pc ps) (hh:hi≤w.heap.size) (hs:szIter rows lw gh ps≤1048576) :
 Calls Try.prog 57 #[iterV ar a n c la ln lc ga gn gc pa pn pc] w (GvItB w ar rows lw gh (nextP ar rows lw gh ps) (standsF ar rows lw gh ps)):=by
 have HLN:=hid (And.intro hI.1.2.len (And.intro hI.2.1.len (And.intro hI.2.2.1.len hI.2.2.2.len)))
 have HI:=hid hI;have HSZ:=hid hs;clear hI hs
 go_enter Try.func57,Try.ntmps57
 go_wp2_with fail
 refine absC (fun W=>(W.cell? ⟨w.heap.size,0,none⟩=some (.int .i64 ar)∧W.cell? ⟨w.heap.size,1,none⟩=some (.slice a n c)∧W.cell? ⟨w.heap.size,2,none⟩=some (.slice la ln lc)∧W.cell? ⟨w.heap.size,3,none⟩=some (.slice ga gn gc)∧W.cell? ⟨w.heap.size,4,none⟩=some (.slice pa pn pc)∧W.cell? ⟨w.heap.size+1,0,none⟩=some (.int .i64 0)∧W.frozen? ⟨w.heap.size+1,0,none⟩=false∧W.cell? ⟨w.heap.size+1,1,none⟩=some (.slice none 0 0)∧W.frozen? ⟨w.heap.size+1,1,none⟩=false∧W.cell? ⟨w.heap.size+1,2,none⟩=some (.slice none 0 0)∧W.frozen? ⟨w.heap.size+1,2,none⟩=false∧W.cell? ⟨w.heap.size+1,3,none⟩=some (.slice none 0 0)∧W.frozen? ⟨w.heap.size+1,3,none⟩=false∧W.cell? ⟨w.heap.size+1,4,none⟩=some (.slice none 0 0)∧W.frozen? ⟨w.heap.size+1,4,none⟩=false∧w.heap.size<W.heap.size∧w.heap.size+1<W.heap.size∧w.heap.size+2≤W.heap.size∧hi≤W.heap.size)∧Hid (IterA fz lo hi W ar a n c rows la ln lc lw ga gn gc gh pa pn pc ps)∧Hid (Below w.heap.size w W)) ⟨by (refine ⟨?_,?_,?_,?_,?_,?_,?_,?_,?_,?_,?_,?_,?_,?_,?_,?_,?_,?_,?_⟩) <;> (first | with_reducible assumption | ((try simp only [sz_alloc,sz_drewN,sz_drew1,sz_set]);omega) | (simp (disch:=(first | omega | (simp only [sz_alloc,sz_drewN,sz_drew1,sz_set];omega) | (simp (disch:=(first | omega | (simp only [sz_alloc,sz_drewN,sz_drew1,sz_set];omega))) only [calloc,cdrewN,cdrew1,cset_far,cset_off, *,Option.isSome_some];done))) only [calloc,falloc,cdrewN,cdrew1,fdrewN,fdrew1,cset_far,cset_off,fset_any,World.cell?_setCell_same'];first | done | with_reducible assumption) | (go_simp;done) | (simp;done)),hid (kpIter HI.out (by (repeat (first | (with_reducible refine Keeps.sc ?_ (by first | (left;omega) | (right;omega)) _) | (with_reducible refine Keeps.al ?_ (by first | ((try simp only [sz_alloc,sz_drewN,sz_drew1,sz_set]);omega) | (simp;done) | (simp;omega)) _) | (with_reducible refine Keeps.dr ?_ _)));with_reducible exact Keeps.refl _ _ _)),hid (by (repeat (first | (with_reducible refine Below.setCell ?_ (by first | ((try simp only [sz_alloc,sz_drewN,sz_drew1,sz_set]);omega) | (simp;done) | (simp;omega)) _) | (with_reducible refine Below.al ?_ (by first | ((try simp only [sz_alloc,sz_drewN,sz_drew1,sz_set]);omega) | (simp;done) | (simp;omega)) _) | (with_reducible refine below_drewN ?_ _) | (with_reducible refine below_drew1 ?_)));with_reducible exact Below.refl _ _)⟩ ?_
 rintro v1 ⟨⟨c0,c1,c2,c3,c4,c5,fc5,c6,fc6,c7,fc7,c8,fc8,c9,fc9,s0,s1,s2,s3⟩,DA,HBv1⟩
 have hm9:w.heap.size+2≤v1.heap.size:=by omega
 refine (specCopyIt ar a n c rows la ln lc lw ga gn gc gh pa pn pc ps _ DA.out (by omega) HSZ.out).mono ?_
 rintro e v2 ⟨ra,rn,rc,la1,ln1,lc1,ga1,gn1,gc1,pa1,pn1,pc1,rfl,ho,hb⟩
 have hm8:=hb.size
 have hlo:=ho.lens;obtain ⟨rfl,rfl,rfl,rfl⟩:n=rn∧ln=ln1∧gn=gn1∧pn=pn1:=by have h:=HLN.out;omega
 have HO:=hid ho;clear ho hlo
 have hz:=hb.size
 have hFF:v2.cell? ⟨w.heap.size,0,none⟩=some (.int .i64 ar)∧v2.cell? ⟨w.heap.size,1,none⟩=some (.slice a n c)∧v2.cell? ⟨w.heap.size,2,none⟩=some (.slice la ln lc)∧v2.cell? ⟨w.heap.size,3,none⟩=some (.slice ga gn gc)∧v2.cell? ⟨w.heap.size,4,none⟩=some (.slice pa pn pc)∧v2.cell? ⟨w.heap.size+1,0,none⟩=some (.int .i64 0)∧v2.frozen? ⟨w.heap.size+1,0,none⟩=false∧v2.cell? ⟨w.heap.size+1,1,none⟩=some (.slice none 0 0)∧v2.frozen? ⟨w.heap.size+1,1,none⟩=false∧v2.cell? ⟨w.heap.size+1,2,none⟩=some (.slice none 0 0)∧v2.frozen? ⟨w.heap.size+1,2,none⟩=false∧v2.cell? ⟨w.heap.size+1,3,none⟩=some (.slice none 0 0)∧v2.frozen? ⟨w.heap.size+1,3,none⟩=false∧v2.cell? ⟨w.heap.size+1,4,none⟩=some (.slice none 0 0)∧v2.frozen? ⟨w.heap.size+1,4,none⟩=false∧w.heap.size<v2.heap.size∧w.heap.size+1<v2.heap.size∧w.heap.size+2≤v2.heap.size∧hi≤v2.heap.size:=by (refine ⟨?_,?_,?_,?_,?_,?_,?_,?_,?_,?_,?_,?_,?_,?_,?_,?_,?_,?_,?_⟩) <;> (first | omega | (rw [(bcell hb).1 _ _ (by omega)];with_reducible assumption) | (rw [(bcell hb).2 _ _ (by omega)];with_reducible assumption))
 replace DA:Hid (IterA fz lo hi v2 ar a n c rows la ln lc lw ga gn gc gh pa pn pc ps):=hid (kpIter DA.out (Keeps.of_below hb (by omega)))
 replace HBv1:Hid (Below w.heap.size w v2):=hid (HBv1.out.trans (hb.mono (by omega)))
 clear c0 c1 c2 c3 c4 c5 fc5 c6 fc6 c7 fc7 c8 fc8 c9 fc9 s0 s1 s2 s3
 obtain ⟨c0,c1,c2,c3,c4,c5,fc5,c6,fc6,c7,fc7,c8,fc8,c9,fc9,s0,s1,s2,s3⟩:=hFF
 clear hz hb
 obtain ⟨m0,hm0⟩:∃ m,m=v1.heap.size:=⟨_,rfl⟩
 obtain ⟨m1,hm1⟩:∃ m,m=v2.heap.size:=⟨_,rfl⟩
 rw [← hm0,← hm1] at HO
 have hm2:w.heap.size+2≤m0:=by omega
 have hm4:m0≤m1:=by omega
 clear hm9 hm8
 have hm3:m1≤v2.heap.size:=by omega
 have HM1:=hid hm1;clear hm0 hm1
 go_wp2_with fail
 obtain ⟨gb,hgb⟩:∃ g,g=v2.heap.size:=⟨_,rfl⟩
 rw [← hgb]
 have hg1:m1≤gb:=by have h:=HM1.out;omega
 refine absC (fun W=>(W.cell? ⟨w.heap.size,0,none⟩=some (.int .i64 ar)∧W.cell? ⟨w.heap.size,1,none⟩=some (.slice a n c)∧W.cell? ⟨w.heap.size,2,none⟩=some (.slice la ln lc)∧W.cell? ⟨w.heap.size,3,none⟩=some (.slice ga gn gc)∧W.cell? ⟨w.heap.size,4,none⟩=some (.slice pa pn pc)∧W.cell? ⟨w.heap.size+1,0,none⟩=some (.int .i64 0)∧W.frozen? ⟨w.heap.size+1,0,none⟩=false∧W.cell? ⟨w.heap.size+1,1,none⟩=some (.slice none 0 0)∧W.frozen? ⟨w.heap.size+1,1,none⟩=false∧W.cell? ⟨w.heap.size+1,2,none⟩=some (.slice none 0 0)∧W.frozen? ⟨w.heap.size+1,2,none⟩=false∧W.cell? ⟨w.heap.size+1,3,none⟩=some (.slice none 0 0)∧W.frozen? ⟨w.heap.size+1,3,none⟩=false∧W.cell? ⟨w.heap.size+1,4,none⟩=some (.slice none 0 0)∧W.frozen? ⟨w.heap.size+1,4,none⟩=false∧W.cell? ⟨gb,0,none⟩=some (.int .i64 ar)∧W.frozen? ⟨gb,0,none⟩=false∧W.cell? ⟨gb,1,none⟩=some (.slice ra n rc)∧W.frozen? ⟨gb,1,none⟩=false∧W.cell? ⟨gb,2,none⟩=some (.slice la1 ln lc1)∧W.frozen? ⟨gb,2,none⟩=false∧W.cell? ⟨gb,3,none⟩=some (.slice ga1 gn gc1)∧W.frozen? ⟨gb,3,none⟩=false∧W.cell? ⟨gb,4,none⟩=some (.slice pa1 pn pc1)∧W.frozen? ⟨gb,4,none⟩=false∧w.heap.size<W.heap.size∧w.heap.size+1<W.heap.size∧w.heap.size+2≤W.heap.size∧hi≤W.heap.size∧m1≤W.heap.size∧gb<W.heap.size)∧Hid (IterA fz lo hi W ar a n c rows la ln lc lw ga gn gc gh pa pn pc ps)∧Hid (IterS m0 m1 W ar ra n rc rows la1 ln lc1 lw ga1 gn gc1 gh pa1 pn pc1 ps)∧Hid (Below w.heap.size w W)) ⟨by (refine ⟨?_,?_,?_,?_,?_,?_,?_,?_,?_,?_,?_,?_,?_,?_,?_,?_,?_,?_,?_,?_,?_,?_,?_,?_,?_,?_,?_,?_,?_,?_,?_⟩) <;> (first | with_reducible assumption | ((try simp only [sz_alloc,sz_drewN,sz_drew1,sz_set]);omega) | (simp (disch:=(first | omega | (simp only [sz_alloc,sz_drewN,sz_drew1,sz_set];omega) | (simp (disch:=(first | omega | (simp only [sz_alloc,sz_drewN,sz_drew1,sz_set];omega))) only [calloc,cdrewN,cdrew1,cset_far,cset_off, *,Option.isSome_some];done))) only [calloc,falloc,cdrewN,cdrew1,fdrewN,fdrew1,cset_far,cset_off,fset_any,World.cell?_setCell_same'];first | done | with_reducible assumption) | (go_simp;done) | (simp;done)),hid (kpIter DA.out (by (repeat (first | (with_reducible refine Keeps.sc ?_ (by first | (left;omega) | (right;omega)) _) | (with_reducible refine Keeps.al ?_ (by first | ((try simp only [sz_alloc,sz_drewN,sz_drew1,sz_set]);omega) | (simp;done) | (simp;omega)) _) | (with_reducible refine Keeps.dr ?_ _)));with_reducible exact Keeps.refl _ _ _)),hid (kpIterS HO.out (by (repeat (first | (with_reducible refine Keeps.sc ?_ (by first | (left;omega) | (right;omega)) _) | (with_reducible refine Keeps.al ?_ (by first | ((try simp only [sz_alloc,sz_drewN,sz_drew1,sz_set]);omega) | (simp;done) | (simp;omega)) _) | (with_reducible refine Keeps.dr ?_ _)));with_reducible exact Keeps.refl _ _ _)),hid (by (repeat (first | (with_reducible refine Below.setCell ?_ (by first | ((try simp only [sz_alloc,sz_drewN,sz_drew1,sz_set]);omega) | (simp;done) | (simp;omega)) _) | (with_reducible refine Below.al ?_ (by first | ((try simp only [sz_alloc,sz_drewN,sz_drew1,sz_set]);omega) | (simp;done) | (simp;omega)) _) | (with_reducible refine below_drewN ?_ _) | (with_reducible refine below_drew1 ?_)));with_reducible exact HBv1.out)⟩ ?_
 clear c0 c1 c2 c3 c4 c5 c6 c7 c8 c9 fc5 fc6 fc7 fc8 fc9 s0 s1 s2 s3 hm3 DA HO HBv1
 rintro v3 ⟨⟨c0,c1,c2,c3,c4,c5,fc5,c6,fc6,c7,fc7,c8,fc8,c9,fc9,c10,fc10,c11,fc11,c12,fc12,c13,fc13,c14,fc14,s0,s1,s2,s3,hm3,s5⟩,DA,HO,HBv3⟩
 clear hgb
 refine (specValidIt ar a n c rows la ln lc lw ga gn gc gh pa pn pc ps _ DA.out (by omega)).mono ?_
 rintro e v4 ⟨rfl,hb⟩
 have hz:=hb.size
 have hFF:v4.cell? ⟨w.heap.size,0,none⟩=some (.int .i64 ar)∧v4.cell? ⟨w.heap.size,1,none⟩=some (.slice a n c)∧v4.cell? ⟨w.heap.size,2,none⟩=some (.slice la ln lc)∧v4.cell? ⟨w.heap.size,3,none⟩=some (.slice ga gn gc)∧v4.cell? ⟨w.heap.size,4,none⟩=some (.slice pa pn pc)∧v4.cell? ⟨w.heap.size+1,0,none⟩=some (.int .i64 0)∧v4.frozen? ⟨w.heap.size+1,0,none⟩=false∧v4.cell? ⟨w.heap.size+1,1,none⟩=some (.slice none 0 0)∧v4.frozen? ⟨w.heap.size+1,1,none⟩=false∧v4.cell? ⟨w.heap.size+1,2,none⟩=some (.slice none 0 0)∧v4.frozen? ⟨w.heap.size+1,2,none⟩=false∧v4.cell? ⟨w.heap.size+1,3,none⟩=some (.slice none 0 0)∧v4.frozen? ⟨w.heap.size+1,3,none⟩=false∧v4.cell? ⟨w.heap.size+1,4,none⟩=some (.slice none 0 0)∧v4.frozen? ⟨w.heap.size+1,4,none⟩=false∧v4.cell? ⟨gb,0,none⟩=some (.int .i64 ar)∧v4.frozen? ⟨gb,0,none⟩=false∧v4.cell? ⟨gb,1,none⟩=some (.slice ra n rc)∧v4.frozen? ⟨gb,1,none⟩=false∧v4.cell? ⟨gb,2,none⟩=some (.slice la1 ln lc1)∧v4.frozen? ⟨gb,2,none⟩=false∧v4.cell? ⟨gb,3,none⟩=some (.slice ga1 gn gc1)∧v4.frozen? ⟨gb,3,none⟩=false∧v4.cell? ⟨gb,4,none⟩=some (.slice pa1 pn pc1)∧v4.frozen? ⟨gb,4,none⟩=false∧w.heap.size<v4.heap.size∧w.heap.size+1<v4.heap.size∧w.heap.size+2≤v4.heap.size∧hi≤v4.heap.size∧m1≤v4.heap.size∧gb<v4.heap.size:=by (refine ⟨?_,?_,?_,?_,?_,?_,?_,?_,?_,?_,?_,?_,?_,?_,?_,?_,?_,?_,?_,?_,?_,?_,?_,?_,?_,?_,?_,?_,?_,?_,?_⟩) <;> (first | omega | (rw [(bcell hb).1 _ _ (by omega)];with_reducible assumption) | (rw [(bcell hb).2 _ _ (by omega)];with_reducible assumption))
 replace DA:Hid (IterA fz lo hi v4 ar a n c rows la ln lc lw ga gn gc gh pa pn pc ps):=hid (kpIter DA.out (Keeps.of_below hb (by omega)))
 replace HO:Hid (IterS m0 m1 v4 ar ra n rc rows la1 ln lc1 lw ga1 gn gc1 gh pa1 pn pc1 ps):=hid (kpIterS HO.out (Keeps.of_below hb (by omega)))
 replace HBv3:Hid (Below w.heap.size w v4):=hid (HBv3.out.trans (hb.mono (by omega)))
 clear c0 c1 c2 c3 c4 c5 fc5 c6 fc6 c7 fc7 c8 fc8 c9 fc9 c10 fc10 c11 fc11 c12 fc12 c13 fc13 c14 fc14 s0 s1 s2 s3 hm3 s5
 obtain ⟨c0,c1,c2,c3,c4,c5,fc5,c6,fc6,c7,fc7,c8,fc8,c9,fc9,c10,fc10,c11,fc11,c12,fc12,c13,fc13,c14,fc14,s0,s1,s2,s3,hm3,s5⟩:=hFF
 clear hz hb
 obtain ⟨vb,hvb⟩:∃ vb,validIt ar rows lw gh ps=vb:=⟨_,rfl⟩
 rw [hvb];have HVB:=hid hvb;clear hvb
 cases vb with
 | false =>
  have HF:=hid (stands_inv HVB.out)
  go_wp2
  refine bodyPost_ret (v:=.tuple #[iterV ar ra n rc la1 ln lc1 ga1 gn gc1 pa1 pn pc1,.bool false]) (by simp [results,Try.results57,go_sem,c0,c1,c2,c3,c4,c5,c6,c7,c8,c9,c10,c11,c12,c13,c14]) rfl ⟨ra,n,rc,la1,ln,lc1,ga1,gn,gc1,pa1,pn,pc1,(by rw [HF.out]),?_,?_⟩
  ·rw [nextP_no HF.out];exact hgIterS (wdIterS (kpIterS HO.out (by (repeat (first | (with_reducible refine Keeps.sc ?_ (by first | (left;omega) | (right;omega)) _) | (with_reducible refine Keeps.al ?_ (by first | ((try simp only [sz_alloc,sz_drewN,sz_drew1,sz_set]);omega) | (simp;done) | (simp;omega)) _) | (with_reducible refine Keeps.dr ?_ _)));with_reducible exact Keeps.refl _ _ _)) (by omega)) (by first | ((try simp only [sz_alloc,sz_drewN,sz_drew1,sz_set]);omega) | (simp;done) | (simp;omega))
  ·have hq:=HBv3.out;(repeat (with_reducible refine Below.setCell ?_ (by first | ((try simp only [sz_alloc,sz_drewN,sz_drew1,sz_set]);omega) | (simp;done) | (simp;omega)) _));with_reducible exact hq
 | true =>
  by_cases hp0:pn=0
  ·have HF:=hid (stands_nil (ar:=ar) (rows:=rows) (low:=lw) (high:=gh) (pos:=ps) (by have h:=HLN.out;omega))
   subst hp0
   go_wp2
   refine bodyPost_ret (v:=.tuple #[iterV ar ra n rc la1 ln lc1 ga1 gn gc1 pa1 0 pc1,.bool false]) (by simp [results,Try.results57,go_sem,c0,c1,c2,c3,c4,c5,c6,c7,c8,c9,c10,c11,c12,c13,c14]) rfl ⟨ra,n,rc,la1,ln,lc1,ga1,gn,gc1,pa1,0,pc1,(by rw [HF.out]),?_,?_⟩
   ·rw [nextP_no HF.out];exact hgIterS (wdIterS (kpIterS HO.out (by (repeat (first | (with_reducible refine Keeps.sc ?_ (by first | (left;omega) | (right;omega)) _) | (with_reducible refine Keeps.al ?_ (by first | ((try simp only [sz_alloc,sz_drewN,sz_drew1,sz_set]);omega) | (simp;done) | (simp;omega)) _) | (with_reducible refine Keeps.dr ?_ _)));with_reducible exact Keeps.refl _ _ _)) (by omega)) (by first | ((try simp only [sz_alloc,sz_drewN,sz_drew1,sz_set]);omega) | (simp;done) | (simp;omega))
   ·have hq:=HBv3.out;(repeat (with_reducible refine Below.setCell ?_ (by first | ((try simp only [sz_alloc,sz_drewN,sz_drew1,sz_set]);omega) | (simp;done) | (simp;omega)) _));with_reducible exact hq
  ·have hpb:((pn:Int) == 0)=false:=by simp;omega
   have HSV:=hid (stands_val HVB.out (by have h:=HLN.out;omega))
   obtain ⟨eb,heb⟩:∃ eb,atEndF ar rows lw gh ps=eb:=⟨_,rfl⟩
   have HEB:=hid heb;clear heb
   go_wp2_with fail
   refine (specAtEnd ar a n c rows la ln lc lw ga gn gc gh pa pn pc ps _ DA.out (by omega)).mono ?_
   rintro e v5 ⟨rfl,hb⟩
   have hz:=hb.size
   have hFF:v5.cell? ⟨w.heap.size,0,none⟩=some (.int .i64 ar)∧v5.cell? ⟨w.heap.size,1,none⟩=some (.slice a n c)∧v5.cell? ⟨w.heap.size,2,none⟩=some (.slice la ln lc)∧v5.cell? ⟨w.heap.size,3,none⟩=some (.slice ga gn gc)∧v5.cell? ⟨w.heap.size,4,none⟩=some (.slice pa pn pc)∧v5.cell? ⟨w.heap.size+1,0,none⟩=some (.int .i64 0)∧v5.frozen? ⟨w.heap.size+1,0,none⟩=false∧v5.cell? ⟨w.heap.size+1,1,none⟩=some (.slice none 0 0)∧v5.frozen? ⟨w.heap.size+1,1,none⟩=false∧v5.cell? ⟨w.heap.size+1,2,none⟩=some (.slice none 0 0)∧v5.frozen? ⟨w.heap.size+1,2,none⟩=false∧v5.cell? ⟨w.heap.size+1,3,none⟩=some (.slice none 0 0)∧v5.frozen? ⟨w.heap.size+1,3,none⟩=false∧v5.cell? ⟨w.heap.size+1,4,none⟩=some (.slice none 0 0)∧v5.frozen? ⟨w.heap.size+1,4,none⟩=false∧v5.cell? ⟨gb,0,none⟩=some (.int .i64 ar)∧v5.frozen? ⟨gb,0,none⟩=false∧v5.cell? ⟨gb,1,none⟩=some (.slice ra n rc)∧v5.frozen? ⟨gb,1,none⟩=false∧v5.cell? ⟨gb,2,none⟩=some (.slice la1 ln lc1)∧v5.frozen? ⟨gb,2,none⟩=false∧v5.cell? ⟨gb,3,none⟩=some (.slice ga1 gn gc1)∧v5.frozen? ⟨gb,3,none⟩=false∧v5.cell? ⟨gb,4,none⟩=some (.slice pa1 pn pc1)∧v5.frozen? ⟨gb,4,none⟩=false∧w.heap.size<v5.heap.size∧w.heap.size+1<v5.heap.size∧w.heap.size+2≤v5.heap.size∧hi≤v5.heap.size∧m1≤v5.heap.size∧gb<v5.heap.size:=by (refine ⟨?_,?_,?_,?_,?_,?_,?_,?_,?_,?_,?_,?_,?_,?_,?_,?_,?_,?_,?_,?_,?_,?_,?_,?_,?_,?_,?_,?_,?_,?_,?_⟩) <;> (first | omega | (rw [(bcell hb).1 _ _ (by omega)];with_reducible assumption) | (rw [(bcell hb).2 _ _ (by omega)];with_reducible assumption))
   replace DA:Hid (IterA fz lo hi v5 ar a n c rows la ln lc lw ga gn gc gh pa pn pc ps):=hid (kpIter DA.out (Keeps.of_below hb (by omega)))
   replace HO:Hid (IterS m0 m1 v5 ar ra n rc rows la1 ln lc1 lw ga1 gn gc1 gh pa1 pn pc1 ps):=hid (kpIterS HO.out (Keeps.of_below hb (by omega)))
   replace HBv3:Hid (Below w.heap.size w v5):=hid (HBv3.out.trans (hb.mono (by omega)))
   clear c0 c1 c2 c3 c4 c5 fc5 c6 fc6 c7 fc7 c8 fc8 c9 fc9 c10 fc10 c11 fc11 c12 fc12 c13 fc13 c14 fc14 s0 s1 s2 s3 hm3 s5
   obtain ⟨c0,c1,c2,c3,c4,c5,fc5,c6,fc6,c7,fc7,c8,fc8,c9,fc9,c10,fc10,c11,fc11,c12,fc12,c13,fc13,c14,fc14,s0,s1,s2,s3,hm3,s5⟩:=hFF
   clear hz hb
   rw [HEB.out]
   cases eb with
   | true =>
    have HF:Hid (standsF ar rows lw gh ps=false):=hid (by rw [HSV.out,HEB.out];rfl)
    go_wp2
    refine bodyPost_ret (v:=.tuple #[iterV ar ra n rc la1 ln lc1 ga1 gn gc1 pa1 pn pc1,.bool false]) (by simp [results,Try.results57,go_sem,c0,c1,c2,c3,c4,c5,c6,c7,c8,c9,c10,c11,c12,c13,c14]) rfl ⟨ra,n,rc,la1,ln,lc1,ga1,gn,gc1,pa1,pn,pc1,(by rw [HF.out]),?_,?_⟩
    ·rw [nextP_no HF.out];exact hgIterS (wdIterS (kpIterS HO.out (by (repeat (first | (with_reducible refine Keeps.sc ?_ (by first | (left;omega) | (right;omega)) _) | (with_reducible refine Keeps.al ?_ (by first | ((try simp only [sz_alloc,sz_drewN,sz_drew1,sz_set]);omega) | (simp;done) | (simp;omega)) _) | (with_reducible refine Keeps.dr ?_ _)));with_reducible exact Keeps.refl _ _ _)) (by omega)) (by first | ((try simp only [sz_alloc,sz_drewN,sz_drew1,sz_set]);omega) | (simp;done) | (simp;omega))
    ·have hq:=HBv3.out;(repeat (with_reducible refine Below.setCell ?_ (by first | ((try simp only [sz_alloc,sz_drewN,sz_drew1,sz_set]);omega) | (simp;done) | (simp;omega)) _));with_reducible exact hq
   | false =>
    have HF:Hid (standsF ar rows lw gh ps=true):=hid (by rw [HSV.out,HEB.out];rfl)
    obtain ⟨hv,l,hpn,hpx,hgx,hlt,hbn,hla,hrl⟩:=stands_out HF.out
    have hvo:=validIt_out hv
    obtain ⟨hl0,hl1,hl2⟩:pn=l+1∧ln=l+1∧gn=l+1:=by have h:=HLN.out;omega
    subst hl0 hl1 hl2
    have hnr:rows.length=n:=HLN.out.1
    have HRL:Hid (∀ i,i<n→l<(rx rows i).length):=hid (fun i hi=>by have:=hrl i (by omega);omega)
    obtain ⟨p,hp⟩:∃ p,px ps l=p:=⟨_,rfl⟩
    obtain ⟨h,hh9⟩:∃ h,(bnd rows ps l).2=h:=⟨_,rfl⟩
    rw [hp] at hpx hlt;rw [hh9] at hgx hlt hbn;rw [hnr] at hbn
    have hcp:=HO.out.caps;unfold maxLen at hcp
    obtain ⟨⟨k1,k2⟩,⟨k3,k4⟩,⟨k5,k6⟩⟩:=hcp
    have hns:=HO.out.it.1.2.small
    have hw1:IntKind.i64.wrap ((l:Int)+1 - 1)=l:=by rw [show (l:Int)+1 - 1=l by omega];exact IntWalk.i64_in _ (by omega)
    obtain ⟨pb,po,rfl,pb1,pb2,pc0,fpc0⟩:=HO.out.posn (i:=l) (by omega)
    obtain ⟨hb9,ho9,rfl,hb1,hb2,hc0⟩:=HO.out.high (i:=l) (by omega)
    have hne:hb9 ≠ pb:=HO.out.ne (by omega) (by omega)
    rw [hpx] at pc0;rw [hgx] at hc0
    obtain ⟨rb,ro,rfl⟩:=RowsA.some HO.out.it.1.2 (show 0<n by omega)
    have hj1:(l:Int)<(l:Int)+1:=by omega
    have spb:pb<v5.heap.size:=by omega
    have shb:hb9<v5.heap.size:=by omega
    have HPX:=hid (And.intro hpx (And.intro hgx (And.intro hp hh9)));clear hpx hgx hp hh9 hpn hla hrl hv hvo
    go_wp2_with fail
    refine absR (fun W=>(W.cell? ⟨w.heap.size,0,none⟩=some (.int .i64 ar)∧W.cell? ⟨w.heap.size,1,none⟩=some (.slice a n c)∧W.cell? ⟨w.heap.size,2,none⟩=some (.slice la (l+1) lc)∧W.cell? ⟨w.heap.size,3,none⟩=some (.slice ga (l+1) gc)∧W.cell? ⟨w.heap.size,4,none⟩=some (.slice pa (l+1) pc)∧W.cell? ⟨w.heap.size+1,0,none⟩=some (.int .i64 0)∧W.frozen? ⟨w.heap.size+1,0,none⟩=false∧W.cell? ⟨w.heap.size+1,1,none⟩=some (.slice none 0 0)∧W.frozen? ⟨w.heap.size+1,1,none⟩=false∧W.cell? ⟨w.heap.size+1,2,none⟩=some (.slice none 0 0)∧W.frozen? ⟨w.heap.size+1,2,none⟩=false∧W.cell? ⟨w.heap.size+1,3,none⟩=some (.slice none 0 0)∧W.frozen? ⟨w.heap.size+1,3,none⟩=false∧W.cell? ⟨w.heap.size+1,4,none⟩=some (.slice none 0 0)∧W.frozen? ⟨w.heap.size+1,4,none⟩=false∧W.cell? ⟨gb,0,none⟩=some (.int .i64 ar)∧W.frozen? ⟨gb,0,none⟩=false∧W.cell? ⟨gb,1,none⟩=some (.slice (some ⟨rb,ro,none⟩) n rc)∧W.frozen? ⟨gb,1,none⟩=false∧W.cell? ⟨gb,2,none⟩=some (.slice la1 (l+1) lc1)∧W.frozen? ⟨gb,2,none⟩=false∧W.cell? ⟨gb,3,none⟩=some (.slice (some ⟨hb9,ho9,none⟩) (l+1) gc1)∧W.frozen? ⟨gb,3,none⟩=false∧W.cell? ⟨gb,4,none⟩=some (.slice (some ⟨pb,po,none⟩) (l+1) pc1)∧W.frozen? ⟨gb,4,none⟩=false∧W.cell? ⟨pb,po+l,none⟩=some (.int .i64 p)∧W.frozen? ⟨pb,po+l,none⟩=false∧W.cell? ⟨hb9,ho9+l,none⟩=some (.int .i64 h)∧w.heap.size<W.heap.size∧w.heap.size+1<W.heap.size∧w.heap.size+2≤W.heap.size∧hi≤W.heap.size∧m1≤W.heap.size∧gb<W.heap.size∧pb<W.heap.size∧hb9<W.heap.size)∧Hid (IterA fz lo hi W ar a n c rows la (l+1) lc lw ga (l+1) gc gh pa (l+1) pc ps)∧Hid (IterS m0 m1 W ar (some ⟨rb,ro,none⟩) n rc rows la1 (l+1) lc1 lw (some ⟨hb9,ho9,none⟩) (l+1) gc1 gh (some ⟨pb,po,none⟩) (l+1) pc1 ps)∧Hid (Below w.heap.size w W)) ⟨by (refine ⟨?_,?_,?_,?_,?_,?_,?_,?_,?_,?_,?_,?_,?_,?_,?_,?_,?_,?_,?_,?_,?_,?_,?_,?_,?_,?_,?_,?_,?_,?_,?_,?_,?_,?_,?_,?_⟩) <;> (first | with_reducible assumption | ((try simp only [sz_alloc,sz_drewN,sz_drew1,sz_set]);omega) | (simp (disch:=(first | omega | (simp only [sz_alloc,sz_drewN,sz_drew1,sz_set];omega) | (simp (disch:=(first | omega | (simp only [sz_alloc,sz_drewN,sz_drew1,sz_set];omega))) only [calloc,cdrewN,cdrew1,cset_far,cset_off, *,Option.isSome_some];done))) only [calloc,falloc,cdrewN,cdrew1,fdrewN,fdrew1,cset_far,cset_off,fset_any,World.cell?_setCell_same'];first | done | with_reducible assumption) | (go_simp;done) | (simp;done)),hid (kpIter DA.out (by (repeat (first | (with_reducible refine Keeps.sc ?_ (by first | (left;omega) | (right;omega)) _) | (with_reducible refine Keeps.al ?_ (by first | ((try simp only [sz_alloc,sz_drewN,sz_drew1,sz_set]);omega) | (simp;done) | (simp;omega)) _) | (with_reducible refine Keeps.dr ?_ _)));with_reducible exact Keeps.refl _ _ _)),hid (kpIterS HO.out (by (repeat (first | (with_reducible refine Keeps.sc ?_ (by first | (left;omega) | (right;omega)) _) | (with_reducible refine Keeps.al ?_ (by first | ((try simp only [sz_alloc,sz_drewN,sz_drew1,sz_set]);omega) | (simp;done) | (simp;omega)) _) | (with_reducible refine Keeps.dr ?_ _)));with_reducible exact Keeps.refl _ _ _)),hid (by (repeat (first | (with_reducible refine Below.setCell ?_ (by first | ((try simp only [sz_alloc,sz_drewN,sz_drew1,sz_set]);omega) | (simp;done) | (simp;omega)) _) | (with_reducible refine Below.al ?_ (by first | ((try simp only [sz_alloc,sz_drewN,sz_drew1,sz_set]);omega) | (simp;done) | (simp;omega)) _) | (with_reducible refine below_drewN ?_ _) | (with_reducible refine below_drew1 ?_)));with_reducible exact HBv3.out)⟩ ?_
    clear c0 c1 c2 c3 c4 c5 c6 c7 c8 c9 c10 c11 c12 c13 c14 pc0 hc0 fc5 fc6 fc7 fc8 fc9 fc10 fc11 fc12 fc13 fc14 fpc0 s0 s1 s2 s3 hm3 s5 spb shb DA HO HBv3
    rintro v6 ⟨⟨c0,c1,c2,c3,c4,c5,fc5,c6,fc6,c7,fc7,c8,fc8,c9,fc9,c10,fc10,c11,fc11,c12,fc12,c13,fc13,c14,fc14,pc0,fpc0,hc0,s0,s1,s2,s3,hm3,s5,spb,shb⟩,DA,HO,HBv6⟩
    have hLc0:∀ x:Later v6.heap.size v6,x.w.cell? ⟨w.heap.size,0,none⟩=some (.int .i64 ar):=fun x=>x.cell c0 s0
    have hLc1:∀ x:Later v6.heap.size v6,x.w.cell? ⟨w.heap.size,1,none⟩=some (.slice a n c):=fun x=>x.cell c1 s0
    have hLc2:∀ x:Later v6.heap.size v6,x.w.cell? ⟨w.heap.size,2,none⟩=some (.slice la (l+1) lc):=fun x=>x.cell c2 s0
    have hLc3:∀ x:Later v6.heap.size v6,x.w.cell? ⟨w.heap.size,3,none⟩=some (.slice ga (l+1) gc):=fun x=>x.cell c3 s0
    have hLc4:∀ x:Later v6.heap.size v6,x.w.cell? ⟨w.heap.size,4,none⟩=some (.slice pa (l+1) pc):=fun x=>x.cell c4 s0
    have hLc5:∀ x:Later v6.heap.size v6,x.w.cell? ⟨w.heap.size+1,0,none⟩=some (.int .i64 0):=fun x=>x.cell c5 s1
    have hLc6:∀ x:Later v6.heap.size v6,x.w.cell? ⟨w.heap.size+1,1,none⟩=some (.slice none 0 0):=fun x=>x.cell c6 s1
    have hLc7:∀ x:Later v6.heap.size v6,x.w.cell? ⟨w.heap.size+1,2,none⟩=some (.slice none 0 0):=fun x=>x.cell c7 s1
    have hLc8:∀ x:Later v6.heap.size v6,x.w.cell? ⟨w.heap.size+1,3,none⟩=some (.slice none 0 0):=fun x=>x.cell c8 s1
    have hLc9:∀ x:Later v6.heap.size v6,x.w.cell? ⟨w.heap.size+1,4,none⟩=some (.slice none 0 0):=fun x=>x.cell c9 s1
    have hLc10:∀ x:Later v6.heap.size v6,x.w.cell? ⟨gb,0,none⟩=some (.int .i64 ar):=fun x=>x.cell c10 s5
    have hLc11:∀ x:Later v6.heap.size v6,x.w.cell? ⟨gb,1,none⟩=some (.slice (some ⟨rb,ro,none⟩) n rc):=fun x=>x.cell c11 s5
    have hLc12:∀ x:Later v6.heap.size v6,x.w.cell? ⟨gb,2,none⟩=some (.slice la1 (l+1) lc1):=fun x=>x.cell c12 s5
    have hLc13:∀ x:Later v6.heap.size v6,x.w.cell? ⟨gb,3,none⟩=some (.slice (some ⟨hb9,ho9,none⟩) (l+1) gc1):=fun x=>x.cell c13 s5
    have hLc14:∀ x:Later v6.heap.size v6,x.w.cell? ⟨gb,4,none⟩=some (.slice (some ⟨pb,po,none⟩) (l+1) pc1):=fun x=>x.cell c14 s5
    have hLpc0:∀ x:Later v6.heap.size v6,x.w.cell? ⟨pb,po+l,none⟩=some (.int .i64 p):=fun x=>x.cell pc0 spb
    have hLhc0:∀ x:Later v6.heap.size v6,x.w.cell? ⟨hb9,ho9+l,none⟩=some (.int .i64 h):=fun x=>x.cell hc0 shb
    have HC:=hid (fun x:Later v6.heap.size v6=>later_of x (Nat.le_refl _) (specBehind ar a n c rows la (l+1) lc lw ga (l+1) gc gh pa pc ps l p h x.w (beIter DA.out x.be (by omega)) (by have:=x.size;omega) (by omega) HPX.out.2.1 HPX.out.1 hlt (by omega) (fun i hi=>HRL.out i (by omega))))
    clear c0 c1 c2 c3 c4 c5 c6 c7 c8 c9 c10 c11 c12 c13 c14 pc0 hc0
    refine wp_region_laterT (B:=v6.heap.size) (w0:=v6) 7 (by kernel_rfl) (by kernel_rfl) (Below.refl _ _) ?_
    simp only [List.take_succ_cons,List.take_zero,List.drop_succ_cons,List.drop_zero]
    repeat (any_goals (first | go_big_quiet_step (((go_at_call 37;exact HC.out _))) | quiet_step (((go_at_call 37;exact HC.out _)))))
    refine wpQuiet_nil ?_
    intro _ hw'
    obtain ⟨nq,hw''⟩:=hw'
    subst hw''
    have hbq:=nq.be;have hzq:=hbq.size
    have c0:=hLc0 nq
    have c1:=hLc1 nq
    have c2:=hLc2 nq
    have c3:=hLc3 nq
    have c4:=hLc4 nq
    have c5:=hLc5 nq
    replace fc5:nq.w.frozen? ⟨w.heap.size+1,0,none⟩=false:=by rw [(bcell hbq).2 _ _ s1];exact fc5
    have c6:=hLc6 nq
    replace fc6:nq.w.frozen? ⟨w.heap.size+1,1,none⟩=false:=by rw [(bcell hbq).2 _ _ s1];exact fc6
    have c7:=hLc7 nq
    replace fc7:nq.w.frozen? ⟨w.heap.size+1,2,none⟩=false:=by rw [(bcell hbq).2 _ _ s1];exact fc7
    have c8:=hLc8 nq
    replace fc8:nq.w.frozen? ⟨w.heap.size+1,3,none⟩=false:=by rw [(bcell hbq).2 _ _ s1];exact fc8
    have c9:=hLc9 nq
    replace fc9:nq.w.frozen? ⟨w.heap.size+1,4,none⟩=false:=by rw [(bcell hbq).2 _ _ s1];exact fc9
    have c10:=hLc10 nq
    replace fc10:nq.w.frozen? ⟨gb,0,none⟩=false:=by rw [(bcell hbq).2 _ _ s5];exact fc10
    have c11:=hLc11 nq
    replace fc11:nq.w.frozen? ⟨gb,1,none⟩=false:=by rw [(bcell hbq).2 _ _ s5];exact fc11
    have c12:=hLc12 nq
    replace fc12:nq.w.frozen? ⟨gb,2,none⟩=false:=by rw [(bcell hbq).2 _ _ s5];exact fc12
    have c13:=hLc13 nq
    replace fc13:nq.w.frozen? ⟨gb,3,none⟩=false:=by rw [(bcell hbq).2 _ _ s5];exact fc13
    have c14:=hLc14 nq
    replace fc14:nq.w.frozen? ⟨gb,4,none⟩=false:=by rw [(bcell hbq).2 _ _ s5];exact fc14
    have pc0:=hLpc0 nq
    replace fpc0:nq.w.frozen? ⟨pb,po+l,none⟩=false:=by rw [(bcell hbq).2 _ _ spb];exact fpc0
    have hc0:=hLhc0 nq
    replace DA:Hid (IterA fz lo hi nq.w ar a n c rows la (l+1) lc lw ga (l+1) gc gh pa (l+1) pc ps):=hid (kpIter DA.out (Keeps.of_below hbq (by omega)))
    replace HO:Hid (IterS m0 m1 nq.w ar (some ⟨rb,ro,none⟩) n rc rows la1 (l+1) lc1 lw (some ⟨hb9,ho9,none⟩) (l+1) gc1 gh (some ⟨pb,po,none⟩) (l+1) pc1 ps):=hid (kpIterS HO.out (Keeps.of_below hbq (by omega)))
    replace HBv6:Hid (Below w.heap.size w nq.w):=hid (HBv6.out.trans (hbq.mono (by omega)))
    replace s0:w.heap.size<nq.w.heap.size:=(by omega)
    replace s1:w.heap.size+1<nq.w.heap.size:=(by omega)
    replace s2:w.heap.size+2≤nq.w.heap.size:=(by omega)
    replace s3:hi≤nq.w.heap.size:=(by omega)
    replace hm3:m1≤nq.w.heap.size:=(by omega)
    replace s5:gb<nq.w.heap.size:=(by omega)
    replace spb:pb<nq.w.heap.size:=(by omega)
    replace shb:hb9<nq.w.heap.size:=(by omega)
    clear hbq hzq hLc0 hLc1 hLc2 hLc3 hLc4 hLc5 hLc6 hLc7 hLc8 hLc9 hLc10 hLc11 hLc12 hLc13 hLc14 hLpc0 hLhc0
    generalize nq.w=v7 at *
    clear HC
    obtain ⟨q,hq⟩:∃ q,grpEnd rows l p h=q:=⟨_,rfl⟩
    rw [hq]
    have hqle:q≤h:=by rw [← hq];exact grpEnd_le _ _ _ _
    have HN:Hid (nextP ar rows lw gh ps=ps.set l (q:Int)):=hid (by rw [nextP_yes HF.out (l:=l) (by have h:=HLN.out;omega),HPX.out.2.2.1,HPX.out.2.2.2,hq])
    have HQQ:=hid hq;clear hq
    have HO2:=hid (HO.out.setP (i:=l) (v:=(q:Int)) (by omega) (by unfold I64;omega))
    go_wp2
    refine bodyPost_ret (v:=.tuple #[iterV ar (some ⟨rb,ro,none⟩) n rc la1 (l+1) lc1 (some ⟨hb9,ho9,none⟩) (l+1) gc1 (some ⟨pb,po,none⟩) (l+1) pc1,.bool true]) (by simp [results,Try.results57,go_sem,c0,c1,c2,c3,c4,c5,c6,c7,c8,c9,c10,c11,c12,c13,c14,pc0,hc0]) rfl ⟨(some ⟨rb,ro,none⟩),n,rc,la1,(l+1),lc1,(some ⟨hb9,ho9,none⟩),(l+1),gc1,(some ⟨pb,po,none⟩),(l+1),pc1,(by rw [HF.out]),?_,?_⟩
    ·rw [HN.out];exact hgIterS (wdIterS (kpIterS HO2.out (by (repeat (first | (with_reducible refine Keeps.sc ?_ (by first | (left;omega) | (right;omega)) _) | (with_reducible refine Keeps.al ?_ (by first | ((try simp only [sz_alloc,sz_drewN,sz_drew1,sz_set]);omega) | (simp;done) | (simp;omega)) _) | (with_reducible refine Keeps.dr ?_ _)));with_reducible exact Keeps.refl _ _ _)) (by omega)) (by first | ((try simp only [sz_alloc,sz_drewN,sz_drew1,sz_set]);omega) | (simp;done) | (simp;omega))
    ·have hq:=HBv6.out;(repeat (with_reducible refine Below.setCell ?_ (by first | ((try simp only [sz_alloc,sz_drewN,sz_drew1,sz_set]);omega) | (simp;done) | (simp;omega)) _));with_reducible exact hq
end Go.Proofs.Ytfobmfngbfbfdaa
