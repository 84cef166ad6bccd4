/- Lemmas for the proof of FnIteration, part 13 of 24: no condition of their own. -/
import Derived.Test.YtfobmfngbfbfdaaJ7
import Derived.Test.YtfobmfngbfbfdaaJ4
namespace Go.Proofs.Ytfobmfngbfbfdaa
set_option linter.unusedSimpArgs false
set_option linter.unusedVariables false
open Go.RowKit
theorem intsTake {fz:Bool} {lo hi:Nat} {w:World} {a:Option Addr} {n c:Nat} {xs:List Int} (h:IntsA fz lo hi w a n c xs) {j:Nat} (hj:j≤n):IntsA fz lo hi w a j c (xs.take j):=by
 obtain ⟨h1,h2,h3,h4,h5,h6⟩:=h
 refine ⟨by simp;omega,by omega,h3,fun x hx=>h4 x (List.mem_of_mem_take hx),fun hn=>?_,h6⟩
 obtain ⟨b,off,ha,hl,hb,hc⟩:=h5 (by omega)
 refine ⟨b,off,ha,hl,hb,fun i hi=>?_⟩
 have e:ix (xs.take j) i=ix xs i:=by simp [ix,List.getElem?_take_of_lt hi]
 rw [e];exact hc i (by omega)
section
variable {lo hi:Nat} {w:World} {ar:Int} {a:Option Addr} {n c:Nat} {rows:List (List Int)} {la:Option Addr} {ln lc:Nat} {lw:List Int} {ga:Option Addr} {gn gc:Nat} {gh:List Int} {pa:Option Addr} {pn pc:Nat} {ps:List Int}
theorem IterS.lens (h:IterS lo hi w ar a n c rows la ln lc lw ga gn gc gh pa pn pc ps):rows.length=n∧lw.length=ln∧gh.length=gn∧ps.length=pn:=⟨h.it.1.2.len,h.it.2.1.len,h.it.2.2.1.len,h.it.2.2.2.len⟩
theorem IterS.caps (h:IterS lo hi w ar a n c rows la ln lc lw ga gn gc gh pa pn pc ps):(ln≤lc∧lc≤maxLen)∧(gn≤gc∧gc≤maxLen)∧(pn≤pc∧pc≤maxLen):=⟨⟨h.it.2.1.2.1,h.it.2.1.2.2.1⟩,⟨h.it.2.2.1.2.1,h.it.2.2.1.2.2.1⟩,⟨h.it.2.2.2.2.1,h.it.2.2.2.2.2.1⟩⟩
theorem IterS.cut (h:IterS lo hi w ar a n c rows la ln lc lw ga gn gc gh pa pn pc ps) {j:Nat} (h1:j≤ln) (h2:j≤gn) (h3:j≤pn):IterS lo hi w ar a n c rows la j lc (lw.take j) ga j gc (gh.take j) pa j pc (ps.take j):=by
 obtain ⟨h64,s0,t0,s1,t1,s2,t2,s3,t3,p0,p1,p2,p3,hA⟩:=h
 exact ⟨h64,s0,t0,s1,t1,s2,t2,s3,t3,p0,intsTake p1 h1,intsTake p2 h2,intsTake p3 h3,hA⟩
end
noncomputable def clOK (ar:Int) (rows:List (List Int)) (lw gh ps:List Int):Bool:=validIt ar rows lw gh ps && decide (0<ps.length)
def clT (ok:Bool) (m:Nat) (xs:List Int):List Int:=if ok=true then xs.take (m - 1) else xs
theorem clOK_inv {ar:Int} {rows:List (List Int)} {lw gh ps:List Int} (h:validIt ar rows lw gh ps=false):clOK ar rows lw gh ps=false:=by simp [clOK,h]
theorem clOK_nil {ar:Int} {rows:List (List Int)} {lw gh ps:List Int} (h:ps.length=0):clOK ar rows lw gh ps=false:=by simp [clOK,h]
theorem clOK_yes {ar:Int} {rows:List (List Int)} {lw gh ps:List Int} (h:validIt ar rows lw gh ps=true) (h0:0<ps.length):clOK ar rows lw gh ps=true:=by simp [clOK,h,h0]
theorem szIter_take {rows:List (List Int)} {lw gh ps:List Int} (j:Nat) (h:szIter rows lw gh ps≤1048576):szIter rows (lw.take j) (gh.take j) (ps.take j)≤1048576:=by
 unfold szIter at *
 simp only [List.length_take]
 omega
set_option maxRecDepth 100000 in
set_option maxHeartbeats 12800000 in
theorem implClose {fz:Bool} {lo hi:Nat} (ar:Int) (a:Option Addr) (n c:Nat) (rows:List (List Int)) (la:Option Addr) (ln lc:Nat) (lw:List Int) (ga:Option Addr) (gn gc:Nat) (gh:List Int) (pa:Option Addr) (pn pc:Nat) (ps:List Int) (w:World) (hI:IterA fz lo hi w ar a n c rows la ln lc lw ga gn gc gh pa pn pc ps) (hh:hi≤w.heap.size) (hs:szIter rows lw gh ps≤1048576) :
 Calls Try.prog 17 #[iterV ar a n c la ln lc ga gn gc pa pn pc] w (GvItB w ar rows (clT (clOK ar rows lw gh ps) ps.length lw) (clT (clOK ar rows lw gh ps) ps.length gh) (clT (clOK ar rows lw gh ps) ps.length ps) (clOK ar rows lw gh ps)):=by
 have HLN:=hid (And.intro hI.1.2.len (And.intro hI.2.1.len (And.intro hI.2.2.1.len hI.2.2.2.len)))
 have HI:=hid hI;have HSZ:=hid hs;clear hI hs
 go_enter Try.func17,Try.ntmps17
 go_wp2_with fail
 refine absC (fun W=>(W.cell? ⟨w.heap.size,0,none⟩=some (.int .i64 ar)∧W.cell? ⟨w.heap.size,1,none⟩=some (.slice a n c)∧W.cell? ⟨w.heap.size,2,none⟩=some (.slice la ln lc)∧W.cell? ⟨w.heap.size,3,none⟩=some (.slice ga gn gc)∧W.cell? ⟨w.heap.size,4,none⟩=some (.slice pa pn pc)∧W.cell? ⟨w.heap.size+1,0,none⟩=some (.int .i64 0)∧W.frozen? ⟨w.heap.size+1,0,none⟩=false∧W.cell? ⟨w.heap.size+1,1,none⟩=some (.slice none 0 0)∧W.frozen? ⟨w.heap.size+1,1,none⟩=false∧W.cell? ⟨w.heap.size+1,2,none⟩=some (.slice none 0 0)∧W.frozen? ⟨w.heap.size+1,2,none⟩=false∧W.cell? ⟨w.heap.size+1,3,none⟩=some (.slice none 0 0)∧W.frozen? ⟨w.heap.size+1,3,none⟩=false∧W.cell? ⟨w.heap.size+1,4,none⟩=some (.slice none 0 0)∧W.frozen? ⟨w.heap.size+1,4,none⟩=false∧w.heap.size<W.heap.size∧w.heap.size+1<W.heap.size∧w.heap.size+2≤W.heap.size∧hi≤W.heap.size)∧Hid (IterA fz lo hi W ar a n c rows la ln lc lw ga gn gc gh pa pn pc ps)∧Hid (Below w.heap.size w W)) ⟨by (refine ⟨?_,?_,?_,?_,?_,?_,?_,?_,?_,?_,?_,?_,?_,?_,?_,?_,?_,?_,?_⟩) <;> (first | with_reducible assumption | ((try simp only [sz_alloc,sz_drewN,sz_drew1,sz_set]);omega) | (simp (disch:=(first | omega | (simp only [sz_alloc,sz_drewN,sz_drew1,sz_set];omega) | (simp (disch:=(first | omega | (simp only [sz_alloc,sz_drewN,sz_drew1,sz_set];omega))) only [calloc,cdrewN,cdrew1,cset_far,cset_off, *,Option.isSome_some];done))) only [calloc,falloc,cdrewN,cdrew1,fdrewN,fdrew1,cset_far,cset_off,fset_any,World.cell?_setCell_same'];first | done | with_reducible assumption) | (go_simp;done) | (simp;done)),hid (kpIter HI.out (by (repeat (first | (with_reducible refine Keeps.sc ?_ (by first | (left;omega) | (right;omega)) _) | (with_reducible refine Keeps.al ?_ (by first | ((try simp only [sz_alloc,sz_drewN,sz_drew1,sz_set]);omega) | (simp;done) | (simp;omega)) _) | (with_reducible refine Keeps.dr ?_ _)));with_reducible exact Keeps.refl _ _ _)),hid (by (repeat (first | (with_reducible refine Below.setCell ?_ (by first | ((try simp only [sz_alloc,sz_drewN,sz_drew1,sz_set]);omega) | (simp;done) | (simp;omega)) _) | (with_reducible refine Below.al ?_ (by first | ((try simp only [sz_alloc,sz_drewN,sz_drew1,sz_set]);omega) | (simp;done) | (simp;omega)) _) | (with_reducible refine below_drewN ?_ _) | (with_reducible refine below_drew1 ?_)));with_reducible exact Below.refl _ _)⟩ ?_
 rintro v1 ⟨⟨c0,c1,c2,c3,c4,c5,fc5,c6,fc6,c7,fc7,c8,fc8,c9,fc9,s0,s1,s2,s3⟩,DA,HBv1⟩
 have hm9:w.heap.size+2≤v1.heap.size:=by omega
 refine (implCopyIt ar a n c rows la ln lc lw ga gn gc gh pa pn pc ps _ DA.out (by omega) HSZ.out).mono ?_
 rintro e v2 ⟨ra,rn,rc,la1,ln1,lc1,ga1,gn1,gc1,pa1,pn1,pc1,rfl,ho,hb⟩
 have hm8:=hb.size
 have hlo:=ho.lens;obtain ⟨rfl,rfl,rfl,rfl⟩:n=rn∧ln=ln1∧gn=gn1∧pn=pn1:=by have h:=HLN.out;omega
 have HO:=hid ho;clear ho hlo
 have hz:=hb.size
 have hFF:v2.cell? ⟨w.heap.size,0,none⟩=some (.int .i64 ar)∧v2.cell? ⟨w.heap.size,1,none⟩=some (.slice a n c)∧v2.cell? ⟨w.heap.size,2,none⟩=some (.slice la ln lc)∧v2.cell? ⟨w.heap.size,3,none⟩=some (.slice ga gn gc)∧v2.cell? ⟨w.heap.size,4,none⟩=some (.slice pa pn pc)∧v2.cell? ⟨w.heap.size+1,0,none⟩=some (.int .i64 0)∧v2.frozen? ⟨w.heap.size+1,0,none⟩=false∧v2.cell? ⟨w.heap.size+1,1,none⟩=some (.slice none 0 0)∧v2.frozen? ⟨w.heap.size+1,1,none⟩=false∧v2.cell? ⟨w.heap.size+1,2,none⟩=some (.slice none 0 0)∧v2.frozen? ⟨w.heap.size+1,2,none⟩=false∧v2.cell? ⟨w.heap.size+1,3,none⟩=some (.slice none 0 0)∧v2.frozen? ⟨w.heap.size+1,3,none⟩=false∧v2.cell? ⟨w.heap.size+1,4,none⟩=some (.slice none 0 0)∧v2.frozen? ⟨w.heap.size+1,4,none⟩=false∧w.heap.size<v2.heap.size∧w.heap.size+1<v2.heap.size∧w.heap.size+2≤v2.heap.size∧hi≤v2.heap.size:=by (refine ⟨?_,?_,?_,?_,?_,?_,?_,?_,?_,?_,?_,?_,?_,?_,?_,?_,?_,?_,?_⟩) <;> (first | omega | (rw [(bcell hb).1 _ _ (by omega)];with_reducible assumption) | (rw [(bcell hb).2 _ _ (by omega)];with_reducible assumption))
 replace DA:Hid (IterA fz lo hi v2 ar a n c rows la ln lc lw ga gn gc gh pa pn pc ps):=hid (kpIter DA.out (Keeps.of_below hb (by omega)))
 replace HBv1:Hid (Below w.heap.size w v2):=hid (HBv1.out.trans (hb.mono (by omega)))
 clear c0 c1 c2 c3 c4 c5 fc5 c6 fc6 c7 fc7 c8 fc8 c9 fc9 s0 s1 s2 s3
 obtain ⟨c0,c1,c2,c3,c4,c5,fc5,c6,fc6,c7,fc7,c8,fc8,c9,fc9,s0,s1,s2,s3⟩:=hFF
 clear hz hb
 obtain ⟨m0,hm0⟩:∃ m,m=v1.heap.size:=⟨_,rfl⟩
 obtain ⟨m1,hm1⟩:∃ m,m=v2.heap.size:=⟨_,rfl⟩
 rw [← hm0,← hm1] at HO
 have hm2:w.heap.size+2≤m0:=by omega
 have hm4:m0≤m1:=by omega
 clear hm9 hm8
 have hm3:m1≤v2.heap.size:=by omega
 have HM1:=hid hm1;clear hm0 hm1
 by_cases hp:pn=0
 ·have HF:=hid (clOK_nil (ar:=ar) (rows:=rows) (lw:=lw) (gh:=gh) (ps:=ps) (by have h:=HLN.out;omega))
  subst hp
  have hwz:wrap64 (-1) = -1:=by unfold wrap64;omega
  go_wp2_with fail
  obtain ⟨gb,hgb⟩:∃ g,g=v2.heap.size:=⟨_,rfl⟩
  rw [← hgb]
  have hg1:m1≤gb:=by have h:=HM1.out;omega
  refine absC (fun W=>(W.cell? ⟨w.heap.size,0,none⟩=some (.int .i64 ar)∧W.cell? ⟨w.heap.size,1,none⟩=some (.slice a n c)∧W.cell? ⟨w.heap.size,2,none⟩=some (.slice la ln lc)∧W.cell? ⟨w.heap.size,3,none⟩=some (.slice ga gn gc)∧W.cell? ⟨w.heap.size,4,none⟩=some (.slice pa 0 pc)∧W.cell? ⟨w.heap.size+1,0,none⟩=some (.int .i64 0)∧W.frozen? ⟨w.heap.size+1,0,none⟩=false∧W.cell? ⟨w.heap.size+1,1,none⟩=some (.slice none 0 0)∧W.frozen? ⟨w.heap.size+1,1,none⟩=false∧W.cell? ⟨w.heap.size+1,2,none⟩=some (.slice none 0 0)∧W.frozen? ⟨w.heap.size+1,2,none⟩=false∧W.cell? ⟨w.heap.size+1,3,none⟩=some (.slice none 0 0)∧W.frozen? ⟨w.heap.size+1,3,none⟩=false∧W.cell? ⟨w.heap.size+1,4,none⟩=some (.slice none 0 0)∧W.frozen? ⟨w.heap.size+1,4,none⟩=false∧W.cell? ⟨gb,0,none⟩=some (.int .i64 ar)∧W.frozen? ⟨gb,0,none⟩=false∧W.cell? ⟨gb,1,none⟩=some (.slice ra n rc)∧W.frozen? ⟨gb,1,none⟩=false∧W.cell? ⟨gb,2,none⟩=some (.slice la1 ln lc1)∧W.frozen? ⟨gb,2,none⟩=false∧W.cell? ⟨gb,3,none⟩=some (.slice ga1 gn gc1)∧W.frozen? ⟨gb,3,none⟩=false∧W.cell? ⟨gb,4,none⟩=some (.slice pa1 0 pc1)∧W.frozen? ⟨gb,4,none⟩=false∧w.heap.size<W.heap.size∧w.heap.size+1<W.heap.size∧w.heap.size+2≤W.heap.size∧hi≤W.heap.size∧m1≤W.heap.size∧gb<W.heap.size)∧Hid (IterA fz lo hi W ar a n c rows la ln lc lw ga gn gc gh pa 0 pc ps)∧Hid (IterS m0 m1 W ar ra n rc rows la1 ln lc1 lw ga1 gn gc1 gh pa1 0 pc1 ps)∧Hid (Below w.heap.size w W)) ⟨by (refine ⟨?_,?_,?_,?_,?_,?_,?_,?_,?_,?_,?_,?_,?_,?_,?_,?_,?_,?_,?_,?_,?_,?_,?_,?_,?_,?_,?_,?_,?_,?_,?_⟩) <;> (first | with_reducible assumption | ((try simp only [sz_alloc,sz_drewN,sz_drew1,sz_set]);omega) | (simp (disch:=(first | omega | (simp only [sz_alloc,sz_drewN,sz_drew1,sz_set];omega) | (simp (disch:=(first | omega | (simp only [sz_alloc,sz_drewN,sz_drew1,sz_set];omega))) only [calloc,cdrewN,cdrew1,cset_far,cset_off, *,Option.isSome_some];done))) only [calloc,falloc,cdrewN,cdrew1,fdrewN,fdrew1,cset_far,cset_off,fset_any,World.cell?_setCell_same'];first | done | with_reducible assumption) | (go_simp;done) | (simp;done)),hid (kpIter DA.out (by (repeat (first | (with_reducible refine Keeps.sc ?_ (by first | (left;omega) | (right;omega)) _) | (with_reducible refine Keeps.al ?_ (by first | ((try simp only [sz_alloc,sz_drewN,sz_drew1,sz_set]);omega) | (simp;done) | (simp;omega)) _) | (with_reducible refine Keeps.dr ?_ _)));with_reducible exact Keeps.refl _ _ _)),hid (kpIterS HO.out (by (repeat (first | (with_reducible refine Keeps.sc ?_ (by first | (left;omega) | (right;omega)) _) | (with_reducible refine Keeps.al ?_ (by first | ((try simp only [sz_alloc,sz_drewN,sz_drew1,sz_set]);omega) | (simp;done) | (simp;omega)) _) | (with_reducible refine Keeps.dr ?_ _)));with_reducible exact Keeps.refl _ _ _)),hid (by (repeat (first | (with_reducible refine Below.setCell ?_ (by first | ((try simp only [sz_alloc,sz_drewN,sz_drew1,sz_set]);omega) | (simp;done) | (simp;omega)) _) | (with_reducible refine Below.al ?_ (by first | ((try simp only [sz_alloc,sz_drewN,sz_drew1,sz_set]);omega) | (simp;done) | (simp;omega)) _) | (with_reducible refine below_drewN ?_ _) | (with_reducible refine below_drew1 ?_)));with_reducible exact HBv1.out)⟩ ?_
  clear c0 c1 c2 c3 c4 c5 c6 c7 c8 c9 fc5 fc6 fc7 fc8 fc9 s0 s1 s2 s3 hm3 DA HO HBv1
  rintro v3 ⟨⟨c0,c1,c2,c3,c4,c5,fc5,c6,fc6,c7,fc7,c8,fc8,c9,fc9,c10,fc10,c11,fc11,c12,fc12,c13,fc13,c14,fc14,s0,s1,s2,s3,hm3,s5⟩,DA,HO,HBv3⟩
  clear hgb
  refine (implValidIt ar a n c rows la ln lc lw ga gn gc gh pa 0 pc ps _ DA.out (by omega)).mono ?_
  rintro e v4 ⟨rfl,hb⟩
  have hz:=hb.size
  have hFF:v4.cell? ⟨w.heap.size,0,none⟩=some (.int .i64 ar)∧v4.cell? ⟨w.heap.size,1,none⟩=some (.slice a n c)∧v4.cell? ⟨w.heap.size,2,none⟩=some (.slice la ln lc)∧v4.cell? ⟨w.heap.size,3,none⟩=some (.slice ga gn gc)∧v4.cell? ⟨w.heap.size,4,none⟩=some (.slice pa 0 pc)∧v4.cell? ⟨w.heap.size+1,0,none⟩=some (.int .i64 0)∧v4.frozen? ⟨w.heap.size+1,0,none⟩=false∧v4.cell? ⟨w.heap.size+1,1,none⟩=some (.slice none 0 0)∧v4.frozen? ⟨w.heap.size+1,1,none⟩=false∧v4.cell? ⟨w.heap.size+1,2,none⟩=some (.slice none 0 0)∧v4.frozen? ⟨w.heap.size+1,2,none⟩=false∧v4.cell? ⟨w.heap.size+1,3,none⟩=some (.slice none 0 0)∧v4.frozen? ⟨w.heap.size+1,3,none⟩=false∧v4.cell? ⟨w.heap.size+1,4,none⟩=some (.slice none 0 0)∧v4.frozen? ⟨w.heap.size+1,4,none⟩=false∧v4.cell? ⟨gb,0,none⟩=some (.int .i64 ar)∧v4.frozen? ⟨gb,0,none⟩=false∧v4.cell? ⟨gb,1,none⟩=some (.slice ra n rc)∧v4.frozen? ⟨gb,1,none⟩=false∧v4.cell? ⟨gb,2,none⟩=some (.slice la1 ln lc1)∧v4.frozen? ⟨gb,2,none⟩=false∧v4.cell? ⟨gb,3,none⟩=some (.slice ga1 gn gc1)∧v4.frozen? ⟨gb,3,none⟩=false∧v4.cell? ⟨gb,4,none⟩=some (.slice pa1 0 pc1)∧v4.frozen? ⟨gb,4,none⟩=false∧w.heap.size<v4.heap.size∧w.heap.size+1<v4.heap.size∧w.heap.size+2≤v4.heap.size∧hi≤v4.heap.size∧m1≤v4.heap.size∧gb<v4.heap.size:=by (refine ⟨?_,?_,?_,?_,?_,?_,?_,?_,?_,?_,?_,?_,?_,?_,?_,?_,?_,?_,?_,?_,?_,?_,?_,?_,?_,?_,?_,?_,?_,?_,?_⟩) <;> (first | omega | (rw [(bcell hb).1 _ _ (by omega)];with_reducible assumption) | (rw [(bcell hb).2 _ _ (by omega)];with_reducible assumption))
  replace DA:Hid (IterA fz lo hi v4 ar a n c rows la ln lc lw ga gn gc gh pa 0 pc ps):=hid (kpIter DA.out (Keeps.of_below hb (by omega)))
  replace HO:Hid (IterS m0 m1 v4 ar ra n rc rows la1 ln lc1 lw ga1 gn gc1 gh pa1 0 pc1 ps):=hid (kpIterS HO.out (Keeps.of_below hb (by omega)))
  replace HBv3:Hid (Below w.heap.size w v4):=hid (HBv3.out.trans (hb.mono (by omega)))
  clear c0 c1 c2 c3 c4 c5 fc5 c6 fc6 c7 fc7 c8 fc8 c9 fc9 c10 fc10 c11 fc11 c12 fc12 c13 fc13 c14 fc14 s0 s1 s2 s3 hm3 s5
  obtain ⟨c0,c1,c2,c3,c4,c5,fc5,c6,fc6,c7,fc7,c8,fc8,c9,fc9,c10,fc10,c11,fc11,c12,fc12,c13,fc13,c14,fc14,s0,s1,s2,s3,hm3,s5⟩:=hFF
  clear hz hb
  obtain ⟨vb,hvb⟩:∃ vb,validIt ar rows lw gh ps=vb:=⟨_,rfl⟩
  rw [hvb];have HVB:=hid hvb;clear hvb
  cases vb
  ·go_wp2
   refine bodyPost_ret (v:=.tuple #[iterV ar ra n rc la1 ln lc1 ga1 gn gc1 pa1 0 pc1,.bool false]) (by simp [results,Try.results17,go_sem,c0,c1,c2,c3,c4,c5,c6,c7,c8,c9,c10,c11,c12,c13,c14]) rfl ⟨ra,n,rc,la1,ln,lc1,ga1,gn,gc1,pa1,0,pc1,(by rw [HF.out]),?_,?_⟩
   ·rw [HF.out];exact hgIterS (wdIterS (kpIterS HO.out (by (repeat (first | (with_reducible refine Keeps.sc ?_ (by first | (left;omega) | (right;omega)) _) | (with_reducible refine Keeps.al ?_ (by first | ((try simp only [sz_alloc,sz_drewN,sz_drew1,sz_set]);omega) | (simp;done) | (simp;omega)) _) | (with_reducible refine Keeps.dr ?_ _)));with_reducible exact Keeps.refl _ _ _)) (by omega)) (by first | ((try simp only [sz_alloc,sz_drewN,sz_drew1,sz_set]);omega) | (simp;done) | (simp;omega))
   ·have hq:=HBv3.out;(repeat (with_reducible refine Below.setCell ?_ (by first | ((try simp only [sz_alloc,sz_drewN,sz_drew1,sz_set]);omega) | (simp;done) | (simp;omega)) _));with_reducible exact hq
  ·go_wp2
   refine bodyPost_ret (v:=.tuple #[iterV ar ra n rc la1 ln lc1 ga1 gn gc1 pa1 0 pc1,.bool false]) (by simp [results,Try.results17,go_sem,c0,c1,c2,c3,c4,c5,c6,c7,c8,c9,c10,c11,c12,c13,c14]) rfl ⟨ra,n,rc,la1,ln,lc1,ga1,gn,gc1,pa1,0,pc1,(by rw [HF.out]),?_,?_⟩
   ·rw [HF.out];exact hgIterS (wdIterS (kpIterS HO.out (by (repeat (first | (with_reducible refine Keeps.sc ?_ (by first | (left;omega) | (right;omega)) _) | (with_reducible refine Keeps.al ?_ (by first | ((try simp only [sz_alloc,sz_drewN,sz_drew1,sz_set]);omega) | (simp;done) | (simp;omega)) _) | (with_reducible refine Keeps.dr ?_ _)));with_reducible exact Keeps.refl _ _ _)) (by omega)) (by first | ((try simp only [sz_alloc,sz_drewN,sz_drew1,sz_set]);omega) | (simp;done) | (simp;omega))
   ·have hq:=HBv3.out;(repeat (with_reducible refine Below.setCell ?_ (by first | ((try simp only [sz_alloc,sz_drewN,sz_drew1,sz_set]);omega) | (simp;done) | (simp;omega)) _));with_reducible exact hq
 ·obtain ⟨l,hl⟩:∃ l,pn=l+1:=⟨pn - 1,by omega⟩
  subst hl;clear hp
  have hcp:=HO.out.caps;unfold maxLen at hcp
  obtain ⟨⟨k1,k2⟩,⟨k3,k4⟩,⟨k5,k6⟩⟩:=hcp
  have hw1:IntKind.i64.wrap ((l:Int)+1 - 1)=l:=by rw [show (l:Int)+1 - 1=l by omega];exact IntWalk.i64_in _ (by omega)
  have k9:(l:Int)≤pc1:=by omega
  have k12:l≤pc1:=by omega
  have hnb:(((l:Int)+1) == 0)=false:=by simp;omega
  go_wp2_with fail
  obtain ⟨gb,hgb⟩:∃ g,g=v2.heap.size:=⟨_,rfl⟩
  rw [← hgb]
  have hg1:m1≤gb:=by have h:=HM1.out;omega
  refine absC (fun W=>(W.cell? ⟨w.heap.size,0,none⟩=some (.int .i64 ar)∧W.cell? ⟨w.heap.size,1,none⟩=some (.slice a n c)∧W.cell? ⟨w.heap.size,2,none⟩=some (.slice la ln lc)∧W.cell? ⟨w.heap.size,3,none⟩=some (.slice ga gn gc)∧W.cell? ⟨w.heap.size,4,none⟩=some (.slice pa (l+1) pc)∧W.cell? ⟨w.heap.size+1,0,none⟩=some (.int .i64 0)∧W.frozen? ⟨w.heap.size+1,0,none⟩=false∧W.cell? ⟨w.heap.size+1,1,none⟩=some (.slice none 0 0)∧W.frozen? ⟨w.heap.size+1,1,none⟩=false∧W.cell? ⟨w.heap.size+1,2,none⟩=some (.slice none 0 0)∧W.frozen? ⟨w.heap.size+1,2,none⟩=false∧W.cell? ⟨w.heap.size+1,3,none⟩=some (.slice none 0 0)∧W.frozen? ⟨w.heap.size+1,3,none⟩=false∧W.cell? ⟨w.heap.size+1,4,none⟩=some (.slice none 0 0)∧W.frozen? ⟨w.heap.size+1,4,none⟩=false∧W.cell? ⟨gb,0,none⟩=some (.int .i64 ar)∧W.frozen? ⟨gb,0,none⟩=false∧W.cell? ⟨gb,1,none⟩=some (.slice ra n rc)∧W.frozen? ⟨gb,1,none⟩=false∧W.cell? ⟨gb,2,none⟩=some (.slice la1 ln lc1)∧W.frozen? ⟨gb,2,none⟩=false∧W.cell? ⟨gb,3,none⟩=some (.slice ga1 gn gc1)∧W.frozen? ⟨gb,3,none⟩=false∧W.cell? ⟨gb,4,none⟩=some (.slice pa1 (l+1) pc1)∧W.frozen? ⟨gb,4,none⟩=false∧w.heap.size<W.heap.size∧w.heap.size+1<W.heap.size∧w.heap.size+2≤W.heap.size∧hi≤W.heap.size∧m1≤W.heap.size∧gb<W.heap.size)∧Hid (IterA fz lo hi W ar a n c rows la ln lc lw ga gn gc gh pa (l+1) pc ps)∧Hid (IterS m0 m1 W ar ra n rc rows la1 ln lc1 lw ga1 gn gc1 gh pa1 (l+1) pc1 ps)∧Hid (Below w.heap.size w W)) ⟨by (refine ⟨?_,?_,?_,?_,?_,?_,?_,?_,?_,?_,?_,?_,?_,?_,?_,?_,?_,?_,?_,?_,?_,?_,?_,?_,?_,?_,?_,?_,?_,?_,?_⟩) <;> (first | with_reducible assumption | ((try simp only [sz_alloc,sz_drewN,sz_drew1,sz_set]);omega) | (simp (disch:=(first | omega | (simp only [sz_alloc,sz_drewN,sz_drew1,sz_set];omega) | (simp (disch:=(first | omega | (simp only [sz_alloc,sz_drewN,sz_drew1,sz_set];omega))) only [calloc,cdrewN,cdrew1,cset_far,cset_off, *,Option.isSome_some];done))) only [calloc,falloc,cdrewN,cdrew1,fdrewN,fdrew1,cset_far,cset_off,fset_any,World.cell?_setCell_same'];first | done | with_reducible assumption) | (go_simp;done) | (simp;done)),hid (kpIter DA.out (by (repeat (first | (with_reducible refine Keeps.sc ?_ (by first | (left;omega) | (right;omega)) _) | (with_reducible refine Keeps.al ?_ (by first | ((try simp only [sz_alloc,sz_drewN,sz_drew1,sz_set]);omega) | (simp;done) | (simp;omega)) _) | (with_reducible refine Keeps.dr ?_ _)));with_reducible exact Keeps.refl _ _ _)),hid (kpIterS HO.out (by (repeat (first | (with_reducible refine Keeps.sc ?_ (by first | (left;omega) | (right;omega)) _) | (with_reducible refine Keeps.al ?_ (by first | ((try simp only [sz_alloc,sz_drewN,sz_drew1,sz_set]);omega) | (simp;done) | (simp;omega)) _) | (with_reducible refine Keeps.dr ?_ _)));with_reducible exact Keeps.refl _ _ _)),hid (by (repeat (first | (with_reducible refine Below.setCell ?_ (by first | ((try simp only [sz_alloc,sz_drewN,sz_drew1,sz_set]);omega) | (simp;done) | (simp;omega)) _) | (with_reducible refine Below.al ?_ (by first | ((try simp only [sz_alloc,sz_drewN,sz_drew1,sz_set]);omega) | (simp;done) | (simp;omega)) _) | (with_reducible refine below_drewN ?_ _) | (with_reducible refine below_drew1 ?_)));with_reducible exact HBv1.out)⟩ ?_
  clear c0 c1 c2 c3 c4 c5 c6 c7 c8 c9 fc5 fc6 fc7 fc8 fc9 s0 s1 s2 s3 hm3 DA HO HBv1
  rintro v3 ⟨⟨c0,c1,c2,c3,c4,c5,fc5,c6,fc6,c7,fc7,c8,fc8,c9,fc9,c10,fc10,c11,fc11,c12,fc12,c13,fc13,c14,fc14,s0,s1,s2,s3,hm3,s5⟩,DA,HO,HBv3⟩
  clear hgb
  refine (implValidIt ar a n c rows la ln lc lw ga gn gc gh pa (l+1) pc ps _ DA.out (by omega)).mono ?_
  rintro e v4 ⟨rfl,hb⟩
  have hz:=hb.size
  have hFF:v4.cell? ⟨w.heap.size,0,none⟩=some (.int .i64 ar)∧v4.cell? ⟨w.heap.size,1,none⟩=some (.slice a n c)∧v4.cell? ⟨w.heap.size,2,none⟩=some (.slice la ln lc)∧v4.cell? ⟨w.heap.size,3,none⟩=some (.slice ga gn gc)∧v4.cell? ⟨w.heap.size,4,none⟩=some (.slice pa (l+1) pc)∧v4.cell? ⟨w.heap.size+1,0,none⟩=some (.int .i64 0)∧v4.frozen? ⟨w.heap.size+1,0,none⟩=false∧v4.cell? ⟨w.heap.size+1,1,none⟩=some (.slice none 0 0)∧v4.frozen? ⟨w.heap.size+1,1,none⟩=false∧v4.cell? ⟨w.heap.size+1,2,none⟩=some (.slice none 0 0)∧v4.frozen? ⟨w.heap.size+1,2,none⟩=false∧v4.cell? ⟨w.heap.size+1,3,none⟩=some (.slice none 0 0)∧v4.frozen? ⟨w.heap.size+1,3,none⟩=false∧v4.cell? ⟨w.heap.size+1,4,none⟩=some (.slice none 0 0)∧v4.frozen? ⟨w.heap.size+1,4,none⟩=false∧v4.cell? ⟨gb,0,none⟩=some (.int .i64 ar)∧v4.frozen? ⟨gb,0,none⟩=false∧v4.cell? ⟨gb,1,none⟩=some (.slice ra n rc)∧v4.frozen? ⟨gb,1,none⟩=false∧v4.cell? ⟨gb,2,none⟩=some (.slice la1 ln lc1)∧v4.frozen? ⟨gb,2,none⟩=false∧v4.cell? ⟨gb,3,none⟩=some (.slice ga1 gn gc1)∧v4.frozen? ⟨gb,3,none⟩=false∧v4.cell? ⟨gb,4,none⟩=some (.slice pa1 (l+1) pc1)∧v4.frozen? ⟨gb,4,none⟩=false∧w.heap.size<v4.heap.size∧w.heap.size+1<v4.heap.size∧w.heap.size+2≤v4.heap.size∧hi≤v4.heap.size∧m1≤v4.heap.size∧gb<v4.heap.size:=by (refine ⟨?_,?_,?_,?_,?_,?_,?_,?_,?_,?_,?_,?_,?_,?_,?_,?_,?_,?_,?_,?_,?_,?_,?_,?_,?_,?_,?_,?_,?_,?_,?_⟩) <;> (first | omega | (rw [(bcell hb).1 _ _ (by omega)];with_reducible assumption) | (rw [(bcell hb).2 _ _ (by omega)];with_reducible assumption))
  replace DA:Hid (IterA fz lo hi v4 ar a n c rows la ln lc lw ga gn gc gh pa (l+1) pc ps):=hid (kpIter DA.out (Keeps.of_below hb (by omega)))
  replace HO:Hid (IterS m0 m1 v4 ar ra n rc rows la1 ln lc1 lw ga1 gn gc1 gh pa1 (l+1) pc1 ps):=hid (kpIterS HO.out (Keeps.of_below hb (by omega)))
  replace HBv3:Hid (Below w.heap.size w v4):=hid (HBv3.out.trans (hb.mono (by omega)))
  clear c0 c1 c2 c3 c4 c5 fc5 c6 fc6 c7 fc7 c8 fc8 c9 fc9 c10 fc10 c11 fc11 c12 fc12 c13 fc13 c14 fc14 s0 s1 s2 s3 hm3 s5
  obtain ⟨c0,c1,c2,c3,c4,c5,fc5,c6,fc6,c7,fc7,c8,fc8,c9,fc9,c10,fc10,c11,fc11,c12,fc12,c13,fc13,c14,fc14,s0,s1,s2,s3,hm3,s5⟩:=hFF
  clear hz hb
  obtain ⟨vb,hvb⟩:∃ vb,validIt ar rows lw gh ps=vb:=⟨_,rfl⟩
  rw [hvb];have HVB:=hid hvb;clear hvb
  cases vb with
  | false =>
   have HF:=hid (clOK_inv HVB.out)
   go_wp2
   refine bodyPost_ret (v:=.tuple #[iterV ar ra n rc la1 ln lc1 ga1 gn gc1 pa1 (l+1) pc1,.bool false]) (by simp [results,Try.results17,go_sem,c0,c1,c2,c3,c4,c5,c6,c7,c8,c9,c10,c11,c12,c13,c14]) rfl ⟨ra,n,rc,la1,ln,lc1,ga1,gn,gc1,pa1,(l+1),pc1,(by rw [HF.out]),?_,?_⟩
   ·rw [HF.out];exact hgIterS (wdIterS (kpIterS HO.out (by (repeat (first | (with_reducible refine Keeps.sc ?_ (by first | (left;omega) | (right;omega)) _) | (with_reducible refine Keeps.al ?_ (by first | ((try simp only [sz_alloc,sz_drewN,sz_drew1,sz_set]);omega) | (simp;done) | (simp;omega)) _) | (with_reducible refine Keeps.dr ?_ _)));with_reducible exact Keeps.refl _ _ _)) (by omega)) (by first | ((try simp only [sz_alloc,sz_drewN,sz_drew1,sz_set]);omega) | (simp;done) | (simp;omega))
   ·have hq:=HBv3.out;(repeat (with_reducible refine Below.setCell ?_ (by first | ((try simp only [sz_alloc,sz_drewN,sz_drew1,sz_set]);omega) | (simp;done) | (simp;omega)) _));with_reducible exact hq
  | true =>
   have HF:Hid (clOK ar rows lw gh ps=true):=hid (clOK_yes HVB.out (by have h:=HLN.out;omega))
   obtain ⟨hl1,hl2⟩:ln=l+1∧gn=l+1:=by have h:=validIt_out HVB.out;have h2:=HLN.out;omega
   subst hl1 hl2
   have k7:(l:Int)≤lc1:=by omega
   have k8:(l:Int)≤gc1:=by omega
   have k10:l≤lc1:=by omega
   have k11:l≤gc1:=by omega
   have HF2:Hid (clT (clOK ar rows lw gh ps) ps.length lw=lw.take l∧clT (clOK ar rows lw gh ps) ps.length gh=gh.take l∧clT (clOK ar rows lw gh ps) ps.length ps=ps.take l):=hid (by rw [HF.out,HLN.out.2.2.2];exact ⟨rfl,rfl,rfl⟩)
   go_wp2_with fail
   refine absC (fun W=>(W.cell? ⟨w.heap.size,0,none⟩=some (.int .i64 ar)∧W.cell? ⟨w.heap.size,1,none⟩=some (.slice a n c)∧W.cell? ⟨w.heap.size,2,none⟩=some (.slice la (l+1) lc)∧W.cell? ⟨w.heap.size,3,none⟩=some (.slice ga (l+1) gc)∧W.cell? ⟨w.heap.size,4,none⟩=some (.slice pa (l+1) pc)∧W.cell? ⟨w.heap.size+1,0,none⟩=some (.int .i64 0)∧W.frozen? ⟨w.heap.size+1,0,none⟩=false∧W.cell? ⟨w.heap.size+1,1,none⟩=some (.slice none 0 0)∧W.frozen? ⟨w.heap.size+1,1,none⟩=false∧W.cell? ⟨w.heap.size+1,2,none⟩=some (.slice none 0 0)∧W.frozen? ⟨w.heap.size+1,2,none⟩=false∧W.cell? ⟨w.heap.size+1,3,none⟩=some (.slice none 0 0)∧W.frozen? ⟨w.heap.size+1,3,none⟩=false∧W.cell? ⟨w.heap.size+1,4,none⟩=some (.slice none 0 0)∧W.frozen? ⟨w.heap.size+1,4,none⟩=false∧W.cell? ⟨gb,0,none⟩=some (.int .i64 ar)∧W.frozen? ⟨gb,0,none⟩=false∧W.cell? ⟨gb,1,none⟩=some (.slice ra n rc)∧W.frozen? ⟨gb,1,none⟩=false∧W.cell? ⟨gb,2,none⟩=some (.slice la1 l lc1)∧W.frozen? ⟨gb,2,none⟩=false∧W.cell? ⟨gb,3,none⟩=some (.slice ga1 l gc1)∧W.frozen? ⟨gb,3,none⟩=false∧W.cell? ⟨gb,4,none⟩=some (.slice pa1 l pc1)∧W.frozen? ⟨gb,4,none⟩=false∧w.heap.size<W.heap.size∧w.heap.size+1<W.heap.size∧w.heap.size+2≤W.heap.size∧hi≤W.heap.size∧m1≤W.heap.size∧gb<W.heap.size)∧Hid (IterA fz lo hi W ar a n c rows la (l+1) lc lw ga (l+1) gc gh pa (l+1) pc ps)∧Hid (IterS m0 m1 W ar ra n rc rows la1 l lc1 (lw.take l) ga1 l gc1 (gh.take l) pa1 l pc1 (ps.take l))∧Hid (Below w.heap.size w W)) ⟨by (refine ⟨?_,?_,?_,?_,?_,?_,?_,?_,?_,?_,?_,?_,?_,?_,?_,?_,?_,?_,?_,?_,?_,?_,?_,?_,?_,?_,?_,?_,?_,?_,?_⟩) <;> (first | with_reducible assumption | ((try simp only [sz_alloc,sz_drewN,sz_drew1,sz_set]);omega) | (simp (disch:=(first | omega | (simp only [sz_alloc,sz_drewN,sz_drew1,sz_set];omega) | (simp (disch:=(first | omega | (simp only [sz_alloc,sz_drewN,sz_drew1,sz_set];omega))) only [calloc,cdrewN,cdrew1,cset_far,cset_off, *,Option.isSome_some];done))) only [calloc,falloc,cdrewN,cdrew1,fdrewN,fdrew1,cset_far,cset_off,fset_any,World.cell?_setCell_same'];first | done | with_reducible assumption) | (go_simp;done) | (simp;done)),hid (kpIter DA.out (by (repeat (first | (with_reducible refine Keeps.sc ?_ (by first | (left;omega) | (right;omega)) _) | (with_reducible refine Keeps.al ?_ (by first | ((try simp only [sz_alloc,sz_drewN,sz_drew1,sz_set]);omega) | (simp;done) | (simp;omega)) _) | (with_reducible refine Keeps.dr ?_ _)));with_reducible exact Keeps.refl _ _ _)),hid (kpIterS (HO.out.cut (j:=l) (by omega) (by omega) (by omega)) (by (repeat (first | (with_reducible refine Keeps.sc ?_ (by first | (left;omega) | (right;omega)) _) | (with_reducible refine Keeps.al ?_ (by first | ((try simp only [sz_alloc,sz_drewN,sz_drew1,sz_set]);omega) | (simp;done) | (simp;omega)) _) | (with_reducible refine Keeps.dr ?_ _)));with_reducible exact Keeps.refl _ _ _)),hid (by (repeat (first | (with_reducible refine Below.setCell ?_ (by first | ((try simp only [sz_alloc,sz_drewN,sz_drew1,sz_set]);omega) | (simp;done) | (simp;omega)) _) | (with_reducible refine Below.al ?_ (by first | ((try simp only [sz_alloc,sz_drewN,sz_drew1,sz_set]);omega) | (simp;done) | (simp;omega)) _) | (with_reducible refine below_drewN ?_ _) | (with_reducible refine below_drew1 ?_)));with_reducible exact HBv3.out)⟩ ?_
   clear c0 c1 c2 c3 c4 c5 c6 c7 c8 c9 c10 c11 c12 c13 c14 fc5 fc6 fc7 fc8 fc9 fc10 fc11 fc12 fc13 fc14 s0 s1 s2 s3 hm3 s5 DA HO HBv3
   rintro v5 ⟨⟨c0,c1,c2,c3,c4,c5,fc5,c6,fc6,c7,fc7,c8,fc8,c9,fc9,c10,fc10,c11,fc11,c12,fc12,c13,fc13,c14,fc14,s0,s1,s2,s3,hm3,s5⟩,DA,HO,HBv5⟩
   have hv9:w.heap.size+2≤v5.heap.size:=by omega
   refine (implCopyIt ar ra n rc rows la1 l lc1 (lw.take l) ga1 l gc1 (gh.take l) pa1 l pc1 (ps.take l) _ HO.out.it (by omega) (szIter_take l HSZ.out)).mono ?_
   rintro e v6 ⟨ra2,rn2,rc2,la2,ln2,lc2,ga2,gn2,gc2,pa2,pn2,pc2,rfl,ho2,hb⟩
   have HO2:=hid ho2;clear ho2
   have hz:=hb.size
   have hFF:v6.cell? ⟨w.heap.size,0,none⟩=some (.int .i64 ar)∧v6.cell? ⟨w.heap.size,1,none⟩=some (.slice a n c)∧v6.cell? ⟨w.heap.size,2,none⟩=some (.slice la (l+1) lc)∧v6.cell? ⟨w.heap.size,3,none⟩=some (.slice ga (l+1) gc)∧v6.cell? ⟨w.heap.size,4,none⟩=some (.slice pa (l+1) pc)∧v6.cell? ⟨w.heap.size+1,0,none⟩=some (.int .i64 0)∧v6.frozen? ⟨w.heap.size+1,0,none⟩=false∧v6.cell? ⟨w.heap.size+1,1,none⟩=some (.slice none 0 0)∧v6.frozen? ⟨w.heap.size+1,1,none⟩=false∧v6.cell? ⟨w.heap.size+1,2,none⟩=some (.slice none 0 0)∧v6.frozen? ⟨w.heap.size+1,2,none⟩=false∧v6.cell? ⟨w.heap.size+1,3,none⟩=some (.slice none 0 0)∧v6.frozen? ⟨w.heap.size+1,3,none⟩=false∧v6.cell? ⟨w.heap.size+1,4,none⟩=some (.slice none 0 0)∧v6.frozen? ⟨w.heap.size+1,4,none⟩=false∧v6.cell? ⟨gb,0,none⟩=some (.int .i64 ar)∧v6.frozen? ⟨gb,0,none⟩=false∧v6.cell? ⟨gb,1,none⟩=some (.slice ra n rc)∧v6.frozen? ⟨gb,1,none⟩=false∧v6.cell? ⟨gb,2,none⟩=some (.slice la1 l lc1)∧v6.frozen? ⟨gb,2,none⟩=false∧v6.cell? ⟨gb,3,none⟩=some (.slice ga1 l gc1)∧v6.frozen? ⟨gb,3,none⟩=false∧v6.cell? ⟨gb,4,none⟩=some (.slice pa1 l pc1)∧v6.frozen? ⟨gb,4,none⟩=false∧w.heap.size<v6.heap.size∧w.heap.size+1<v6.heap.size∧w.heap.size+2≤v6.heap.size∧hi≤v6.heap.size∧m1≤v6.heap.size∧gb<v6.heap.size:=by (refine ⟨?_,?_,?_,?_,?_,?_,?_,?_,?_,?_,?_,?_,?_,?_,?_,?_,?_,?_,?_,?_,?_,?_,?_,?_,?_,?_,?_,?_,?_,?_,?_⟩) <;> (first | omega | (rw [(bcell hb).1 _ _ (by omega)];with_reducible assumption) | (rw [(bcell hb).2 _ _ (by omega)];with_reducible assumption))
   replace DA:Hid (IterA fz lo hi v6 ar a n c rows la (l+1) lc lw ga (l+1) gc gh pa (l+1) pc ps):=hid (kpIter DA.out (Keeps.of_below hb (by omega)))
   replace HO:Hid (IterS m0 m1 v6 ar ra n rc rows la1 l lc1 (lw.take l) ga1 l gc1 (gh.take l) pa1 l pc1 (ps.take l)):=hid (kpIterS HO.out (Keeps.of_below hb (by omega)))
   replace HBv5:Hid (Below w.heap.size w v6):=hid (HBv5.out.trans (hb.mono (by omega)))
   clear c0 c1 c2 c3 c4 c5 fc5 c6 fc6 c7 fc7 c8 fc8 c9 fc9 c10 fc10 c11 fc11 c12 fc12 c13 fc13 c14 fc14 s0 s1 s2 s3 hm3 s5
   obtain ⟨c0,c1,c2,c3,c4,c5,fc5,c6,fc6,c7,fc7,c8,fc8,c9,fc9,c10,fc10,c11,fc11,c12,fc12,c13,fc13,c14,fc14,s0,s1,s2,s3,hm3,s5⟩:=hFF
   clear hz hb
   go_wp2
   refine bodyPost_ret (v:=.tuple #[iterV ar ra2 rn2 rc2 la2 ln2 lc2 ga2 gn2 gc2 pa2 pn2 pc2,.bool true]) (by simp [results,Try.results17,go_sem,c0,c1,c2,c3,c4,c5,c6,c7,c8,c9,c10,c11,c12,c13,c14]) rfl ⟨ra2,rn2,rc2,la2,ln2,lc2,ga2,gn2,gc2,pa2,pn2,pc2,(by rw [HF.out]),?_,?_⟩
   ·rw [HF2.out.1,HF2.out.2.1,HF2.out.2.2];exact hgIterS (wdIterS (kpIterS HO2.out (by (repeat (first | (with_reducible refine Keeps.sc ?_ (by first | (left;omega) | (right;omega)) _) | (with_reducible refine Keeps.al ?_ (by first | ((try simp only [sz_alloc,sz_drewN,sz_drew1,sz_set]);omega) | (simp;done) | (simp;omega)) _) | (with_reducible refine Keeps.dr ?_ _)));with_reducible exact Keeps.refl _ _ _)) (by omega)) (by first | ((try simp only [sz_alloc,sz_drewN,sz_drew1,sz_set]);omega) | (simp;done) | (simp;omega))
   ·have hq:=HBv5.out;(repeat (with_reducible refine Below.setCell ?_ (by first | ((try simp only [sz_alloc,sz_drewN,sz_drew1,sz_set]);omega) | (simp;done) | (simp;omega)) _));with_reducible exact hq
set_option maxRecDepth 100000 in
set_option maxHeartbeats 12800000 in
theorem specClose {fz:Bool} {lo hi:Nat} (ar:Int) (a:Option Addr) (n c:Nat) (rows:List (List Int)) (la:Option Addr) (ln lc:Nat) (lw:List Int) (ga:Option Addr) (gn gc:Nat) (gh:List Int) (pa:Option Addr) (pn pc:Nat) (ps:List Int) (w:World) (hI:IterA fz lo hi w ar a n c rows la ln lc lw ga gn gc gh pa pn pc ps) (hh:hi≤w.heap.size) (hs:szIter rows lw gh ps≤1048576) :
 Calls Try.prog 58 #[iterV ar a n c la ln lc ga gn gc pa pn pc] w (GvItB w ar rows (clT (clOK ar rows lw gh ps) ps.length lw) (clT (clOK ar rows lw gh ps) ps.length gh) (clT (clOK ar rows lw gh ps) ps.length ps) (clOK ar rows lw gh ps)):=by
 have HLN:=hid (And.intro hI.1.2.len (And.intro hI.2.1.len (And.intro hI.2.2.1.len hI.2.2.2.len)))
 have HI:=hid hI;have HSZ:=hid hs;clear hI hs
 go_enter Try.func58,Try.ntmps58
 go_wp2_with fail
 refine absC (fun W=>(W.cell? ⟨w.heap.size,0,none⟩=some (.int .i64 ar)∧W.cell? ⟨w.heap.size,1,none⟩=some (.slice a n c)∧W.cell? ⟨w.heap.size,2,none⟩=some (.slice la ln lc)∧W.cell? ⟨w.heap.size,3,none⟩=some (.slice ga gn gc)∧W.cell? ⟨w.heap.size,4,none⟩=some (.slice pa pn pc)∧W.cell? ⟨w.heap.size+1,0,none⟩=some (.int .i64 0)∧W.frozen? ⟨w.heap.size+1,0,none⟩=false∧W.cell? ⟨w.heap.size+1,1,none⟩=some (.slice none 0 0)∧W.frozen? ⟨w.heap.size+1,1,none⟩=false∧W.cell? ⟨w.heap.size+1,2,none⟩=some (.slice none 0 0)∧W.frozen? ⟨w.heap.size+1,2,none⟩=false∧W.cell? ⟨w.heap.size+1,3,none⟩=some (.slice none 0 0)∧W.frozen? ⟨w.heap.size+1,3,none⟩=false∧W.cell? ⟨w.heap.size+1,4,none⟩=some (.slice none 0 0)∧W.frozen? ⟨w.heap.size+1,4,none⟩=false∧w.heap.size<W.heap.size∧w.heap.size+1<W.heap.size∧w.heap.size+2≤W.heap.size∧hi≤W.heap.size)∧Hid (IterA fz lo hi W ar a n c rows la ln lc lw ga gn gc gh pa pn pc ps)∧Hid (Below w.heap.size w W)) ⟨by (refine ⟨?_,?_,?_,?_,?_,?_,?_,?_,?_,?_,?_,?_,?_,?_,?_,?_,?_,?_,?_⟩) <;> (first | with_reducible assumption | ((try simp only [sz_alloc,sz_drewN,sz_drew1,sz_set]);omega) | (simp (disch:=(first | omega | (simp only [sz_alloc,sz_drewN,sz_drew1,sz_set];omega) | (simp (disch:=(first | omega | (simp only [sz_alloc,sz_drewN,sz_drew1,sz_set];omega))) only [calloc,cdrewN,cdrew1,cset_far,cset_off, *,Option.isSome_some];done))) only [calloc,falloc,cdrewN,cdrew1,fdrewN,fdrew1,cset_far,cset_off,fset_any,World.cell?_setCell_same'];first | done | with_reducible assumption) | (go_simp;done) | (simp;done)),hid (kpIter HI.out (by (repeat (first | (with_reducible refine Keeps.sc ?_ (by first | (left;omega) | (right;omega)) _) | (with_reducible refine Keeps.al ?_ (by first | ((try simp only [sz_alloc,sz_drewN,sz_drew1,sz_set]);omega) | (simp;done) | (simp;omega)) _) | (with_reducible refine Keeps.dr ?_ _)));with_reducible exact Keeps.refl _ _ _)),hid (by (repeat (first | (with_reducible refine Below.setCell ?_ (by first | ((try simp only [sz_alloc,sz_drewN,sz_drew1,sz_set]);omega) | (simp;done) | (simp;omega)) _) | (with_reducible refine Below.al ?_ (by first | ((try simp only [sz_alloc,sz_drewN,sz_drew1,sz_set]);omega) | (simp;done) | (simp;omega)) _) | (with_reducible refine below_drewN ?_ _) | (with_reducible refine below_drew1 ?_)));with_reducible exact Below.refl _ _)⟩ ?_
 rintro v1 ⟨⟨c0,c1,c2,c3,c4,c5,fc5,c6,fc6,c7,fc7,c8,fc8,c9,fc9,s0,s1,s2,s3⟩,DA,HBv1⟩
 have hm9:w.heap.size+2≤v1.heap.size:=by omega
 refine (specCopyIt ar a n c rows la ln lc lw ga gn gc gh pa pn pc ps _ DA.out (by omega) HSZ.out).mono ?_
 rintro e v2 ⟨ra,rn,rc,la1,ln1,lc1,ga1,gn1,gc1,pa1,pn1,pc1,rfl,ho,hb⟩
 have hm8:=hb.size
 have hlo:=ho.lens;obtain ⟨rfl,rfl,rfl,rfl⟩:n=rn∧ln=ln1∧gn=gn1∧pn=pn1:=by have h:=HLN.out;omega
 have HO:=hid ho;clear ho hlo
 have hz:=hb.size
 have hFF:v2.cell? ⟨w.heap.size,0,none⟩=some (.int .i64 ar)∧v2.cell? ⟨w.heap.size,1,none⟩=some (.slice a n c)∧v2.cell? ⟨w.heap.size,2,none⟩=some (.slice la ln lc)∧v2.cell? ⟨w.heap.size,3,none⟩=some (.slice ga gn gc)∧v2.cell? ⟨w.heap.size,4,none⟩=some (.slice pa pn pc)∧v2.cell? ⟨w.heap.size+1,0,none⟩=some (.int .i64 0)∧v2.frozen? ⟨w.heap.size+1,0,none⟩=false∧v2.cell? ⟨w.heap.size+1,1,none⟩=some (.slice none 0 0)∧v2.frozen? ⟨w.heap.size+1,1,none⟩=false∧v2.cell? ⟨w.heap.size+1,2,none⟩=some (.slice none 0 0)∧v2.frozen? ⟨w.heap.size+1,2,none⟩=false∧v2.cell? ⟨w.heap.size+1,3,none⟩=some (.slice none 0 0)∧v2.frozen? ⟨w.heap.size+1,3,none⟩=false∧v2.cell? ⟨w.heap.size+1,4,none⟩=some (.slice none 0 0)∧v2.frozen? ⟨w.heap.size+1,4,none⟩=false∧w.heap.size<v2.heap.size∧w.heap.size+1<v2.heap.size∧w.heap.size+2≤v2.heap.size∧hi≤v2.heap.size:=by (refine ⟨?_,?_,?_,?_,?_,?_,?_,?_,?_,?_,?_,?_,?_,?_,?_,?_,?_,?_,?_⟩) <;> (first | omega | (rw [(bcell hb).1 _ _ (by omega)];with_reducible assumption) | (rw [(bcell hb).2 _ _ (by omega)];with_reducible assumption))
 replace DA:Hid (IterA fz lo hi v2 ar a n c rows la ln lc lw ga gn gc gh pa pn pc ps):=hid (kpIter DA.out (Keeps.of_below hb (by omega)))
 replace HBv1:Hid (Below w.heap.size w v2):=hid (HBv1.out.trans (hb.mono (by omega)))
 clear c0 c1 c2 c3 c4 c5 fc5 c6 fc6 c7 fc7 c8 fc8 c9 fc9 s0 s1 s2 s3
 obtain ⟨c0,c1,c2,c3,c4,c5,fc5,c6,fc6,c7,fc7,c8,fc8,c9,fc9,s0,s1,s2,s3⟩:=hFF
 clear hz hb
 obtain ⟨m0,hm0⟩:∃ m,m=v1.heap.size:=⟨_,rfl⟩
 obtain ⟨m1,hm1⟩:∃ m,m=v2.heap.size:=⟨_,rfl⟩
 rw [← hm0,← hm1] at HO
 have hm2:w.heap.size+2≤m0:=by omega
 have hm4:m0≤m1:=by omega
 clear hm9 hm8
 have hm3:m1≤v2.heap.size:=by omega
 have HM1:=hid hm1;clear hm0 hm1
 by_cases hp:pn=0
 ·have HF:=hid (clOK_nil (ar:=ar) (rows:=rows) (lw:=lw) (gh:=gh) (ps:=ps) (by have h:=HLN.out;omega))
  subst hp
  go_wp2_with fail
  obtain ⟨gb,hgb⟩:∃ g,g=v2.heap.size:=⟨_,rfl⟩
  rw [← hgb]
  have hg1:m1≤gb:=by have h:=HM1.out;omega
  refine absC (fun W=>(W.cell? ⟨w.heap.size,0,none⟩=some (.int .i64 ar)∧W.cell? ⟨w.heap.size,1,none⟩=some (.slice a n c)∧W.cell? ⟨w.heap.size,2,none⟩=some (.slice la ln lc)∧W.cell? ⟨w.heap.size,3,none⟩=some (.slice ga gn gc)∧W.cell? ⟨w.heap.size,4,none⟩=some (.slice pa 0 pc)∧W.cell? ⟨w.heap.size+1,0,none⟩=some (.int .i64 0)∧W.frozen? ⟨w.heap.size+1,0,none⟩=false∧W.cell? ⟨w.heap.size+1,1,none⟩=some (.slice none 0 0)∧W.frozen? ⟨w.heap.size+1,1,none⟩=false∧W.cell? ⟨w.heap.size+1,2,none⟩=some (.slice none 0 0)∧W.frozen? ⟨w.heap.size+1,2,none⟩=false∧W.cell? ⟨w.heap.size+1,3,none⟩=some (.slice none 0 0)∧W.frozen? ⟨w.heap.size+1,3,none⟩=false∧W.cell? ⟨w.heap.size+1,4,none⟩=some (.slice none 0 0)∧W.frozen? ⟨w.heap.size+1,4,none⟩=false∧W.cell? ⟨gb,0,none⟩=some (.int .i64 ar)∧W.frozen? ⟨gb,0,none⟩=false∧W.cell? ⟨gb,1,none⟩=some (.slice ra n rc)∧W.frozen? ⟨gb,1,none⟩=false∧W.cell? ⟨gb,2,none⟩=some (.slice la1 ln lc1)∧W.frozen? ⟨gb,2,none⟩=false∧W.cell? ⟨gb,3,none⟩=some (.slice ga1 gn gc1)∧W.frozen? ⟨gb,3,none⟩=false∧W.cell? ⟨gb,4,none⟩=some (.slice pa1 0 pc1)∧W.frozen? ⟨gb,4,none⟩=false∧w.heap.size<W.heap.size∧w.heap.size+1<W.heap.size∧w.heap.size+2≤W.heap.size∧hi≤W.heap.size∧m1≤W.heap.size∧gb<W.heap.size)∧Hid (IterA fz lo hi W ar a n c rows la ln lc lw ga gn gc gh pa 0 pc ps)∧Hid (IterS m0 m1 W ar ra n rc rows la1 ln lc1 lw ga1 gn gc1 gh pa1 0 pc1 ps)∧Hid (Below w.heap.size w W)) ⟨by (refine ⟨?_,?_,?_,?_,?_,?_,?_,?_,?_,?_,?_,?_,?_,?_,?_,?_,?_,?_,?_,?_,?_,?_,?_,?_,?_,?_,?_,?_,?_,?_,?_⟩) <;> (first | with_reducible assumption | ((try simp only [sz_alloc,sz_drewN,sz_drew1,sz_set]);omega) | (simp (disch:=(first | omega | (simp only [sz_alloc,sz_drewN,sz_drew1,sz_set];omega) | (simp (disch:=(first | omega | (simp only [sz_alloc,sz_drewN,sz_drew1,sz_set];omega))) only [calloc,cdrewN,cdrew1,cset_far,cset_off, *,Option.isSome_some];done))) only [calloc,falloc,cdrewN,cdrew1,fdrewN,fdrew1,cset_far,cset_off,fset_any,World.cell?_setCell_same'];first | done | with_reducible assumption) | (go_simp;done) | (simp;done)),hid (kpIter DA.out (by (repeat (first | (with_reducible refine Keeps.sc ?_ (by first | (left;omega) | (right;omega)) _) | (with_reducible refine Keeps.al ?_ (by first | ((try simp only [sz_alloc,sz_drewN,sz_drew1,sz_set]);omega) | (simp;done) | (simp;omega)) _) | (with_reducible refine Keeps.dr ?_ _)));with_reducible exact Keeps.refl _ _ _)),hid (kpIterS HO.out (by (repeat (first | (with_reducible refine Keeps.sc ?_ (by first | (left;omega) | (right;omega)) _) | (with_reducible refine Keeps.al ?_ (by first | ((try simp only [sz_alloc,sz_drewN,sz_drew1,sz_set]);omega) | (simp;done) | (simp;omega)) _) | (with_reducible refine Keeps.dr ?_ _)));with_reducible exact Keeps.refl _ _ _)),hid (by (repeat (first | (with_reducible refine Below.setCell ?_ (by first | ((try simp only [sz_alloc,sz_drewN,sz_drew1,sz_set]);omega) | (simp;done) | (simp;omega)) _) | (with_reducible refine Below.al ?_ (by first | ((try simp only [sz_alloc,sz_drewN,sz_drew1,sz_set]);omega) | (simp;done) | (simp;omega)) _) | (with_reducible refine below_drewN ?_ _) | (with_reducible refine below_drew1 ?_)));with_reducible exact HBv1.out)⟩ ?_
  clear c0 c1 c2 c3 c4 c5 c6 c7 c8 c9 fc5 fc6 fc7 fc8 fc9 s0 s1 s2 s3 hm3 DA HO HBv1
  rintro v3 ⟨⟨c0,c1,c2,c3,c4,c5,fc5,c6,fc6,c7,fc7,c8,fc8,c9,fc9,c10,fc10,c11,fc11,c12,fc12,c13,fc13,c14,fc14,s0,s1,s2,s3,hm3,s5⟩,DA,HO,HBv3⟩
  clear hgb
  refine (specValidIt ar a n c rows la ln lc lw ga gn gc gh pa 0 pc ps _ DA.out (by omega)).mono ?_
  rintro e v4 ⟨rfl,hb⟩
  have hz:=hb.size
  have hFF:v4.cell? ⟨w.heap.size,0,none⟩=some (.int .i64 ar)∧v4.cell? ⟨w.heap.size,1,none⟩=some (.slice a n c)∧v4.cell? ⟨w.heap.size,2,none⟩=some (.slice la ln lc)∧v4.cell? ⟨w.heap.size,3,none⟩=some (.slice ga gn gc)∧v4.cell? ⟨w.heap.size,4,none⟩=some (.slice pa 0 pc)∧v4.cell? ⟨w.heap.size+1,0,none⟩=some (.int .i64 0)∧v4.frozen? ⟨w.heap.size+1,0,none⟩=false∧v4.cell? ⟨w.heap.size+1,1,none⟩=some (.slice none 0 0)∧v4.frozen? ⟨w.heap.size+1,1,none⟩=false∧v4.cell? ⟨w.heap.size+1,2,none⟩=some (.slice none 0 0)∧v4.frozen? ⟨w.heap.size+1,2,none⟩=false∧v4.cell? ⟨w.heap.size+1,3,none⟩=some (.slice none 0 0)∧v4.frozen? ⟨w.heap.size+1,3,none⟩=false∧v4.cell? ⟨w.heap.size+1,4,none⟩=some (.slice none 0 0)∧v4.frozen? ⟨w.heap.size+1,4,none⟩=false∧v4.cell? ⟨gb,0,none⟩=some (.int .i64 ar)∧v4.frozen? ⟨gb,0,none⟩=false∧v4.cell? ⟨gb,1,none⟩=some (.slice ra n rc)∧v4.frozen? ⟨gb,1,none⟩=false∧v4.cell? ⟨gb,2,none⟩=some (.slice la1 ln lc1)∧v4.frozen? ⟨gb,2,none⟩=false∧v4.cell? ⟨gb,3,none⟩=some (.slice ga1 gn gc1)∧v4.frozen? ⟨gb,3,none⟩=false∧v4.cell? ⟨gb,4,none⟩=some (.slice pa1 0 pc1)∧v4.frozen? ⟨gb,4,none⟩=false∧w.heap.size<v4.heap.size∧w.heap.size+1<v4.heap.size∧w.heap.size+2≤v4.heap.size∧hi≤v4.heap.size∧m1≤v4.heap.size∧gb<v4.heap.size:=by (refine ⟨?_,?_,?_,?_,?_,?_,?_,?_,?_,?_,?_,?_,?_,?_,?_,?_,?_,?_,?_,?_,?_,?_,?_,?_,?_,?_,?_,?_,?_,?_,?_⟩) <;> (first | omega | (rw [(bcell hb).1 _ _ (by omega)];with_reducible assumption) | (rw [(bcell hb).2 _ _ (by omega)];with_reducible assumption))
  replace DA:Hid (IterA fz lo hi v4 ar a n c rows la ln lc lw ga gn gc gh pa 0 pc ps):=hid (kpIter DA.out (Keeps.of_below hb (by omega)))
  replace HO:Hid (IterS m0 m1 v4 ar ra n rc rows la1 ln lc1 lw ga1 gn gc1 gh pa1 0 pc1 ps):=hid (kpIterS HO.out (Keeps.of_below hb (by omega)))
  replace HBv3:Hid (Below w.heap.size w v4):=hid (HBv3.out.trans (hb.mono (by omega)))
  clear c0 c1 c2 c3 c4 c5 fc5 c6 fc6 c7 fc7 c8 fc8 c9 fc9 c10 fc10 c11 fc11 c12 fc12 c13 fc13 c14 fc14 s0 s1 s2 s3 hm3 s5
  obtain ⟨c0,c1,c2,c3,c4,c5,fc5,c6,fc6,c7,fc7,c8,fc8,c9,fc9,c10,fc10,c11,fc11,c12,fc12,c13,fc13,c14,fc14,s0,s1,s2,s3,hm3,s5⟩:=hFF
  clear hz hb
  obtain ⟨vb,hvb⟩:∃ vb,validIt ar rows lw gh ps=vb:=⟨_,rfl⟩
  rw [hvb];have HVB:=hid hvb;clear hvb
  cases vb
  ·go_wp2
   refine bodyPost_ret (v:=.tuple #[iterV ar ra n rc la1 ln lc1 ga1 gn gc1 pa1 0 pc1,.bool false]) (by simp [results,Try.results58,go_sem,c0,c1,c2,c3,c4,c5,c6,c7,c8,c9,c10,c11,c12,c13,c14]) rfl ⟨ra,n,rc,la1,ln,lc1,ga1,gn,gc1,pa1,0,pc1,(by rw [HF.out]),?_,?_⟩
   ·rw [HF.out];exact hgIterS (wdIterS (kpIterS HO.out (by (repeat (first | (with_reducible refine Keeps.sc ?_ (by first | (left;omega) | (right;omega)) _) | (with_reducible refine Keeps.al ?_ (by first | ((try simp only [sz_alloc,sz_drewN,sz_drew1,sz_set]);omega) | (simp;done) | (simp;omega)) _) | (with_reducible refine Keeps.dr ?_ _)));with_reducible exact Keeps.refl _ _ _)) (by omega)) (by first | ((try simp only [sz_alloc,sz_drewN,sz_drew1,sz_set]);omega) | (simp;done) | (simp;omega))
   ·have hq:=HBv3.out;(repeat (with_reducible refine Below.setCell ?_ (by first | ((try simp only [sz_alloc,sz_drewN,sz_drew1,sz_set]);omega) | (simp;done) | (simp;omega)) _));with_reducible exact hq
  ·go_wp2
   refine bodyPost_ret (v:=.tuple #[iterV ar ra n rc la1 ln lc1 ga1 gn gc1 pa1 0 pc1,.bool false]) (by simp [results,Try.results58,go_sem,c0,c1,c2,c3,c4,c5,c6,c7,c8,c9,c10,c11,c12,c13,c14]) rfl ⟨ra,n,rc,la1,ln,lc1,ga1,gn,gc1,pa1,0,pc1,(by rw [HF.out]),?_,?_⟩
   ·rw [HF.out];exact hgIterS (wdIterS (kpIterS HO.out (by (repeat (first | (with_reducible refine Keeps.sc ?_ (by first | (left;omega) | (right;omega)) _) | (with_reducible refine Keeps.al ?_ (by first | ((try simp only [sz_alloc,sz_drewN,sz_drew1,sz_set]);omega) | (simp;done) | (simp;omega)) _) | (with_reducible refine Keeps.dr ?_ _)));with_reducible exact Keeps.refl _ _ _)) (by omega)) (by first | ((try simp only [sz_alloc,sz_drewN,sz_drew1,sz_set]);omega) | (simp;done) | (simp;omega))
   ·have hq:=HBv3.out;(repeat (with_reducible refine Below.setCell ?_ (by first | ((try simp only [sz_alloc,sz_drewN,sz_drew1,sz_set]);omega) | (simp;done) | (simp;omega)) _));with_reducible exact hq
 ·obtain ⟨l,hl⟩:∃ l,pn=l+1:=⟨pn - 1,by omega⟩
  subst hl;clear hp
  have hcp:=HO.out.caps;unfold maxLen at hcp
  obtain ⟨⟨k1,k2⟩,⟨k3,k4⟩,⟨k5,k6⟩⟩:=hcp
  have hw1:IntKind.i64.wrap ((l:Int)+1 - 1)=l:=by rw [show (l:Int)+1 - 1=l by omega];exact IntWalk.i64_in _ (by omega)
  have k9:(l:Int)≤pc1:=by omega
  have k12:l≤pc1:=by omega
  have hnb:(((l:Int)+1) == 0)=false:=by simp;omega
  go_wp2_with fail
  obtain ⟨gb,hgb⟩:∃ g,g=v2.heap.size:=⟨_,rfl⟩
  rw [← hgb]
  have hg1:m1≤gb:=by have h:=HM1.out;omega
  refine absC (fun W=>(W.cell? ⟨w.heap.size,0,none⟩=some (.int .i64 ar)∧W.cell? ⟨w.heap.size,1,none⟩=some (.slice a n c)∧W.cell? ⟨w.heap.size,2,none⟩=some (.slice la ln lc)∧W.cell? ⟨w.heap.size,3,none⟩=some (.slice ga gn gc)∧W.cell? ⟨w.heap.size,4,none⟩=some (.slice pa (l+1) pc)∧W.cell? ⟨w.heap.size+1,0,none⟩=some (.int .i64 0)∧W.frozen? ⟨w.heap.size+1,0,none⟩=false∧W.cell? ⟨w.heap.size+1,1,none⟩=some (.slice none 0 0)∧W.frozen? ⟨w.heap.size+1,1,none⟩=false∧W.cell? ⟨w.heap.size+1,2,none⟩=some (.slice none 0 0)∧W.frozen? ⟨w.heap.size+1,2,none⟩=false∧W.cell? ⟨w.heap.size+1,3,none⟩=some (.slice none 0 0)∧W.frozen? ⟨w.heap.size+1,3,none⟩=false∧W.cell? ⟨w.heap.size+1,4,none⟩=some (.slice none 0 0)∧W.frozen? ⟨w.heap.size+1,4,none⟩=false∧W.cell? ⟨gb,0,none⟩=some (.int .i64 ar)∧W.frozen? ⟨gb,0,none⟩=false∧W.cell? ⟨gb,1,none⟩=some (.slice ra n rc)∧W.frozen? ⟨gb,1,none⟩=false∧W.cell? ⟨gb,2,none⟩=some (.slice la1 ln lc1)∧W.frozen? ⟨gb,2,none⟩=false∧W.cell? ⟨gb,3,none⟩=some (.slice ga1 gn gc1)∧W.frozen? ⟨gb,3,none⟩=false∧W.cell? ⟨gb,4,none⟩=some (.slice pa1 (l+1) pc1)∧W.frozen? ⟨gb,4,none⟩=false∧w.heap.size<W.heap.size∧w.heap.size+1<W.heap.size∧w.heap.size+2≤W.heap.size∧hi≤W.heap.size∧m1≤W.heap.size∧gb<W.heap.size)∧Hid (IterA fz lo hi W ar a n c rows la ln lc lw ga gn gc gh pa (l+1) pc ps)∧Hid (IterS m0 m1 W ar ra n rc rows la1 ln lc1 lw ga1 gn gc1 gh pa1 (l+1) pc1 ps)∧Hid (Below w.heap.size w W)) ⟨by (refine ⟨?_,?_,?_,?_,?_,?_,?_,?_,?_,?_,?_,?_,?_,?_,?_,?_,?_,?_,?_,?_,?_,?_,?_,?_,?_,?_,?_,?_,?_,?_,?_⟩) <;> (first | with_reducible assumption | ((try simp only [sz_alloc,sz_drewN,sz_drew1,sz_set]);omega) | (simp (disch:=(first | omega | (simp only [sz_alloc,sz_drewN,sz_drew1,sz_set];omega) | (simp (disch:=(first | omega | (simp only [sz_alloc,sz_drewN,sz_drew1,sz_set];omega))) only [calloc,cdrewN,cdrew1,cset_far,cset_off, *,Option.isSome_some];done))) only [calloc,falloc,cdrewN,cdrew1,fdrewN,fdrew1,cset_far,cset_off,fset_any,World.cell?_setCell_same'];first | done | with_reducible assumption) | (go_simp;done) | (simp;done)),hid (kpIter DA.out (by (repeat (first | (with_reducible refine Keeps.sc ?_ (by first | (left;omega) | (right;omega)) _) | (with_reducible refine Keeps.al ?_ (by first | ((try simp only [sz_alloc,sz_drewN,sz_drew1,sz_set]);omega) | (simp;done) | (simp;omega)) _) | (with_reducible refine Keeps.dr ?_ _)));with_reducible exact Keeps.refl _ _ _)),hid (kpIterS HO.out (by (repeat (first | (with_reducible refine Keeps.sc ?_ (by first | (left;omega) | (right;omega)) _) | (with_reducible refine Keeps.al ?_ (by first | ((try simp only [sz_alloc,sz_drewN,sz_drew1,sz_set]);omega) | (simp;done) | (simp;omega)) _) | (with_reducible refine Keeps.dr ?_ _)));with_reducible exact Keeps.refl _ _ _)),hid (by (repeat (first | (with_reducible refine Below.setCell ?_ (by first | ((try simp only [sz_alloc,sz_drewN,sz_drew1,sz_set]);omega) | (simp;done) | (simp;omega)) _) | (with_reducible refine Below.al ?_ (by first | ((try simp only [sz_alloc,sz_drewN,sz_drew1,sz_set]);omega) | (simp;done) | (simp;omega)) _) | (with_reducible refine below_drewN ?_ _) | (with_reducible refine below_drew1 ?_)));with_reducible exact HBv1.out)⟩ ?_
  clear c0 c1 c2 c3 c4 c5 c6 c7 c8 c9 fc5 fc6 fc7 fc8 fc9 s0 s1 s2 s3 hm3 DA HO HBv1
  rintro v3 ⟨⟨c0,c1,c2,c3,c4,c5,fc5,c6,fc6,c7,fc7,c8,fc8,c9,fc9,c10,fc10,c11,fc11,c12,fc12,c13,fc13,c14,fc14,s0,s1,s2,s3,hm3,s5⟩,DA,HO,HBv3⟩
  clear hgb
  refine (specValidIt ar a n c rows la ln lc lw ga gn gc gh pa (l+1) pc ps _ DA.out (by omega)).mono ?_
  rintro e v4 ⟨rfl,hb⟩
  have hz:=hb.size
  have hFF:v4.cell? ⟨w.heap.size,0,none⟩=some (.int .i64 ar)∧v4.cell? ⟨w.heap.size,1,none⟩=some (.slice a n c)∧v4.cell? ⟨w.heap.size,2,none⟩=some (.slice la ln lc)∧v4.cell? ⟨w.heap.size,3,none⟩=some (.slice ga gn gc)∧v4.cell? ⟨w.heap.size,4,none⟩=some (.slice pa (l+1) pc)∧v4.cell? ⟨w.heap.size+1,0,none⟩=some (.int .i64 0)∧v4.frozen? ⟨w.heap.size+1,0,none⟩=false∧v4.cell? ⟨w.heap.size+1,1,none⟩=some (.slice none 0 0)∧v4.frozen? ⟨w.heap.size+1,1,none⟩=false∧v4.cell? ⟨w.heap.size+1,2,none⟩=some (.slice none 0 0)∧v4.frozen? ⟨w.heap.size+1,2,none⟩=false∧v4.cell? ⟨w.heap.size+1,3,none⟩=some (.slice none 0 0)∧v4.frozen? ⟨w.heap.size+1,3,none⟩=false∧v4.cell? ⟨w.heap.size+1,4,none⟩=some (.slice none 0 0)∧v4.frozen? ⟨w.heap.size+1,4,none⟩=false∧v4.cell? ⟨gb,0,none⟩=some (.int .i64 ar)∧v4.frozen? ⟨gb,0,none⟩=false∧v4.cell? ⟨gb,1,none⟩=some (.slice ra n rc)∧v4.frozen? ⟨gb,1,none⟩=false∧v4.cell? ⟨gb,2,none⟩=some (.slice la1 ln lc1)∧v4.frozen? ⟨gb,2,none⟩=false∧v4.cell? ⟨gb,3,none⟩=some (.slice ga1 gn gc1)∧v4.frozen? ⟨gb,3,none⟩=false∧v4.cell? ⟨gb,4,none⟩=some (.slice pa1 (l+1) pc1)∧v4.frozen? ⟨gb,4,none⟩=false∧w.heap.size<v4.heap.size∧w.heap.size+1<v4.heap.size∧w.heap.size+2≤v4.heap.size∧hi≤v4.heap.size∧m1≤v4.heap.size∧gb<v4.heap.size:=by (refine ⟨?_,?_,?_,?_,?_,?_,?_,?_,?_,?_,?_,?_,?_,?_,?_,?_,?_,?_,?_,?_,?_,?_,?_,?_,?_,?_,?_,?_,?_,?_,?_⟩) <;> (first | omega | (rw [(bcell hb).1 _ _ (by omega)];with_reducible assumption) | (rw [(bcell hb).2 _ _ (by omega)];with_reducible assumption))
  replace DA:Hid (IterA fz lo hi v4 ar a n c rows la ln lc lw ga gn gc gh pa (l+1) pc ps):=hid (kpIter DA.out (Keeps.of_below hb (by omega)))
  replace HO:Hid (IterS m0 m1 v4 ar ra n rc rows la1 ln lc1 lw ga1 gn gc1 gh pa1 (l+1) pc1 ps):=hid (kpIterS HO.out (Keeps.of_below hb (by omega)))
  replace HBv3:Hid (Below w.heap.size w v4):=hid (HBv3.out.trans (hb.mono (by omega)))
  clear c0 c1 c2 c3 c4 c5 fc5 c6 fc6 c7 fc7 c8 fc8 c9 fc9 c10 fc10 c11 fc11 c12 fc12 c13 fc13 c14 fc14 s0 s1 s2 s3 hm3 s5
  obtain ⟨c0,c1,c2,c3,c4,c5,fc5,c6,fc6,c7,fc7,c8,fc8,c9,fc9,c10,fc10,c11,fc11,c12,fc12,c13,fc13,c14,fc14,s0,s1,s2,s3,hm3,s5⟩:=hFF
  clear hz hb
  obtain ⟨vb,hvb⟩:∃ vb,validIt ar rows lw gh ps=vb:=⟨_,rfl⟩
  rw [hvb];have HVB:=hid hvb;clear hvb
  cases vb with
  | false =>
   have HF:=hid (clOK_inv HVB.out)
   go_wp2
   refine bodyPost_ret (v:=.tuple #[iterV ar ra n rc la1 ln lc1 ga1 gn gc1 pa1 (l+1) pc1,.bool false]) (by simp [results,Try.results58,go_sem,c0,c1,c2,c3,c4,c5,c6,c7,c8,c9,c10,c11,c12,c13,c14]) rfl ⟨ra,n,rc,la1,ln,lc1,ga1,gn,gc1,pa1,(l+1),pc1,(by rw [HF.out]),?_,?_⟩
   ·rw [HF.out];exact hgIterS (wdIterS (kpIterS HO.out (by (repeat (first | (with_reducible refine Keeps.sc ?_ (by first | (left;omega) | (right;omega)) _) | (with_reducible refine Keeps.al ?_ (by first | ((try simp only [sz_alloc,sz_drewN,sz_drew1,sz_set]);omega) | (simp;done) | (simp;omega)) _) | (with_reducible refine Keeps.dr ?_ _)));with_reducible exact Keeps.refl _ _ _)) (by omega)) (by first | ((try simp only [sz_alloc,sz_drewN,sz_drew1,sz_set]);omega) | (simp;done) | (simp;omega))
   ·have hq:=HBv3.out;(repeat (with_reducible refine Below.setCell ?_ (by first | ((try simp only [sz_alloc,sz_drewN,sz_drew1,sz_set]);omega) | (simp;done) | (simp;omega)) _));with_reducible exact hq
  | true =>
   have HF:Hid (clOK ar rows lw gh ps=true):=hid (clOK_yes HVB.out (by have h:=HLN.out;omega))
   obtain ⟨hl1,hl2⟩:ln=l+1∧gn=l+1:=by have h:=validIt_out HVB.out;have h2:=HLN.out;omega
   subst hl1 hl2
   have k7:(l:Int)≤lc1:=by omega
   have k8:(l:Int)≤gc1:=by omega
   have k10:l≤lc1:=by omega
   have k11:l≤gc1:=by omega
   have HF2:Hid (clT (clOK ar rows lw gh ps) ps.length lw=lw.take l∧clT (clOK ar rows lw gh ps) ps.length gh=gh.take l∧clT (clOK ar rows lw gh ps) ps.length ps=ps.take l):=hid (by rw [HF.out,HLN.out.2.2.2];exact ⟨rfl,rfl,rfl⟩)
   go_wp2
   refine bodyPost_ret (v:=.tuple #[iterV ar ra n rc la1 l lc1 ga1 l gc1 pa1 l pc1,.bool true]) (by simp [results,Try.results58,go_sem,c0,c1,c2,c3,c4,c5,c6,c7,c8,c9,c10,c11,c12,c13,c14]) rfl ⟨ra,n,rc,la1,l,lc1,ga1,l,gc1,pa1,l,pc1,(by rw [HF.out]),?_,?_⟩
   ·rw [HF2.out.1,HF2.out.2.1,HF2.out.2.2];exact hgIterS (wdIterS (kpIterS (HO.out.cut (j:=l) (by omega) (by omega) (by omega)) (by (repeat (first | (with_reducible refine Keeps.sc ?_ (by first | (left;omega) | (right;omega)) _) | (with_reducible refine Keeps.al ?_ (by first | ((try simp only [sz_alloc,sz_drewN,sz_drew1,sz_set]);omega) | (simp;done) | (simp;omega)) _) | (with_reducible refine Keeps.dr ?_ _)));with_reducible exact Keeps.refl _ _ _)) (by omega)) (by first | ((try simp only [sz_alloc,sz_drewN,sz_drew1,sz_set]);omega) | (simp;done) | (simp;omega))
   ·have hq:=HBv3.out;(repeat (with_reducible refine Below.setCell ?_ (by first | ((try simp only [sz_alloc,sz_drewN,sz_drew1,sz_set]);omega) | (simp;done) | (simp;omega)) _));with_reducible exact hq
end Go.Proofs.Ytfobmfngbfbfdaa
