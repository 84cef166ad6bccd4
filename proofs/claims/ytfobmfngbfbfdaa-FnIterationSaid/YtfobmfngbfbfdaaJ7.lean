/- Lemmas for the proof of FnIteration, part 12 of 24: no condition of their own. -/
import Derived.Test.YtfobmfngbfbfdaaJ6
import Derived.Deep.DeepCutAuto
import Derived.Deep.CutBlock
import Derived.Test.YtfobmfngbfbfdaaJ1
import Derived.Test.YtfobmfngbfbfdaaJ2
import Derived.StillTail
namespace Go.Proofs.Ytfobmfngbfbfdaa
set_option linter.unusedSimpArgs false
set_option linter.unusedVariables false
open Go.RowKit
set_option maxRecDepth 100000 in
set_option maxHeartbeats 12800000 in
theorem specCopyItX {fz:Bool} {lo hi:Nat} (ar:Int) (a:Option Addr) (n c:Nat) (rows:List (List Int)) (la:Option Addr) (ln lc:Nat) (lw:List Int) (ga:Option Addr) (gn gc:Nat) (gh:List Int) (pa:Option Addr) (pn pc:Nat) (ps:List Int) (w:World) (hI:IterA fz lo hi w ar a n c rows la ln lc lw ga gn gc gh pa pn pc ps) (hh:hi≤w.heap.size) (hs:szIter rows lw gh ps≤1048576) :
 Calls Try.prog 29 #[iterV ar a n c la ln lc ga gn gc pa pn pc] w (GvIterX w ar rows lw gh ps):=by
 have hl1:=hI.2.1.len;have hl2:=hI.2.2.1.len;have hl3:=hI.2.2.2.len
 have hsz:rowsSz rows≤1048576∧ln≤1048576∧gn≤1048576∧pn≤1048576:=by unfold szIter at hs;omega
 clear hl1 hl2 hl3 hs
 obtain ⟨W,hW⟩:∃ W,W=(w.alloc (.cells #[.int .i64 ar,.slice a n c,.slice la ln lc,.slice ga gn gc,.slice pa pn pc] 29)).alloc (.cells #[.int .i64 0,.slice none 0 0,.slice none 0 0,.slice none 0 0,.slice none 0 0] 29):=⟨_,rfl⟩
 have hBW:Below w.heap.size w W:=by rw [hW];exact belA
 have hz:W.heap.size=w.heap.size+2:=by rw [hW];simp
 have c0:W.cell? ⟨w.heap.size,0,none⟩=some (.int .i64 ar):=by rw [hW];first | (go_simp;done) | (simp [World.cell?];done)
 have c1:W.cell? ⟨w.heap.size,1,none⟩=some (.slice a n c):=by rw [hW];first | (go_simp;done) | (simp [World.cell?];done)
 have c2:W.cell? ⟨w.heap.size,2,none⟩=some (.slice la ln lc):=by rw [hW];first | (go_simp;done) | (simp [World.cell?];done)
 have c3:W.cell? ⟨w.heap.size,3,none⟩=some (.slice ga gn gc):=by rw [hW];first | (go_simp;done) | (simp [World.cell?];done)
 have c4:W.cell? ⟨w.heap.size,4,none⟩=some (.slice pa pn pc):=by rw [hW];first | (go_simp;done) | (simp [World.cell?];done)
 have q0:W.cell? ⟨w.heap.size+1,0,none⟩=some (.int .i64 0):=by rw [hW];first | (go_simp;done) | (simp [World.cell?];done)
 have f0:W.frozen? ⟨w.heap.size+1,0,none⟩=false:=by rw [hW];first | (go_simp;done) | (simp [World.frozen?];done)
 have q1:W.cell? ⟨w.heap.size+1,1,none⟩=some (.slice none 0 0):=by rw [hW];first | (go_simp;done) | (simp [World.cell?];done)
 have f1:W.frozen? ⟨w.heap.size+1,1,none⟩=false:=by rw [hW];first | (go_simp;done) | (simp [World.frozen?];done)
 have q2:W.cell? ⟨w.heap.size+1,2,none⟩=some (.slice none 0 0):=by rw [hW];first | (go_simp;done) | (simp [World.cell?];done)
 have f2:W.frozen? ⟨w.heap.size+1,2,none⟩=false:=by rw [hW];first | (go_simp;done) | (simp [World.frozen?];done)
 have q3:W.cell? ⟨w.heap.size+1,3,none⟩=some (.slice none 0 0):=by rw [hW];first | (go_simp;done) | (simp [World.cell?];done)
 have f3:W.frozen? ⟨w.heap.size+1,3,none⟩=false:=by rw [hW];first | (go_simp;done) | (simp [World.frozen?];done)
 have q4:W.cell? ⟨w.heap.size+1,4,none⟩=some (.slice none 0 0):=by rw [hW];first | (go_simp;done) | (simp [World.cell?];done)
 have f4:W.frozen? ⟨w.heap.size+1,4,none⟩=false:=by rw [hW];first | (go_simp;done) | (simp [World.frozen?];done)
 have HIW:=hid (beIter hI hBW hh);have HAR:=hid hI.1.1;clear hI
 have hb0:w.heap.size<W.heap.size:=by omega
 have hb1:w.heap.size+1<W.heap.size:=by omega
 have hhW:hi≤W.heap.size:=by omega
 have HBW:=hid hBW;have HW:=hid hW;have HZ:=hid hz;clear hW hBW hz
 go_enter Try.func29,Try.ntmps29
 go_upto_region 1 with fail
 rw [← HW.out]
 go_wp2_with fail
 refine (specAsRel ar a n c _).mono ?_
 rintro e w1 ⟨rfl,hb1w⟩
 have hz1:=hb1w.size
 have HB1:=hid hb1w;clear hb1w
 go_wp2_with fail
 refine (specL5 ar a n c rows _ (SlA.be intsOK HIW.out.1.2 HB1.out hhW) (by omega) hsz.1 HAR.out).mono ?_
 rintro e w2 ⟨ra,rc,rfl,hr2,hb2w⟩
 have hz2:=hb2w.size
 obtain ⟨X,hX⟩:∃ X,X=w2.alloc (.cells #[.int .i64 ar,.slice ra n rc] 49):=⟨_,rfl⟩
 have hBX:Below w2.heap.size w2 X:=by rw [hX];exact belA
 have hzX:X.heap.size=w2.heap.size+1:=by rw [hX];simp
 have hbx:w2.heap.size<X.heap.size:=by omega
 have x0:X.cell? ⟨w2.heap.size,0,none⟩=some (.int .i64 ar):=by rw [hX];simp
 have x1:X.cell? ⟨w2.heap.size,1,none⟩=some (.slice ra n rc):=by rw [hX];simp
 have hWX:Below W.heap.size W X:=HB1.out.trans ((hb2w.mono hz1).trans (hBX.mono (by omega)))
 have HRX:=hid (SepA.keep intsQOK hr2 (Keeps.of_below hBX (Nat.le_refl _)))
 have cX0:X.cell? ⟨w.heap.size,0,none⟩=some (.int .i64 ar):=by rw [(bcell hWX).1 _ _ hb0];exact c0
 have cX1:X.cell? ⟨w.heap.size,1,none⟩=some (.slice a n c):=by rw [(bcell hWX).1 _ _ hb0];exact c1
 have cX2:X.cell? ⟨w.heap.size,2,none⟩=some (.slice la ln lc):=by rw [(bcell hWX).1 _ _ hb0];exact c2
 have cX3:X.cell? ⟨w.heap.size,3,none⟩=some (.slice ga gn gc):=by rw [(bcell hWX).1 _ _ hb0];exact c3
 have cX4:X.cell? ⟨w.heap.size,4,none⟩=some (.slice pa pn pc):=by rw [(bcell hWX).1 _ _ hb0];exact c4
 have qX0:X.cell? ⟨w.heap.size+1,0,none⟩=some (.int .i64 0):=by rw [(bcell hWX).1 _ _ hb1];exact q0
 have fX0:X.frozen? ⟨w.heap.size+1,0,none⟩=false:=by rw [(bcell hWX).2 _ _ hb1];exact f0
 have qX1:X.cell? ⟨w.heap.size+1,1,none⟩=some (.slice none 0 0):=by rw [(bcell hWX).1 _ _ hb1];exact q1
 have fX1:X.frozen? ⟨w.heap.size+1,1,none⟩=false:=by rw [(bcell hWX).2 _ _ hb1];exact f1
 have qX2:X.cell? ⟨w.heap.size+1,2,none⟩=some (.slice none 0 0):=by rw [(bcell hWX).1 _ _ hb1];exact q2
 have fX2:X.frozen? ⟨w.heap.size+1,2,none⟩=false:=by rw [(bcell hWX).2 _ _ hb1];exact f2
 have qX3:X.cell? ⟨w.heap.size+1,3,none⟩=some (.slice none 0 0):=by rw [(bcell hWX).1 _ _ hb1];exact q3
 have fX3:X.frozen? ⟨w.heap.size+1,3,none⟩=false:=by rw [(bcell hWX).2 _ _ hb1];exact f3
 have qX4:X.cell? ⟨w.heap.size+1,4,none⟩=some (.slice none 0 0):=by rw [(bcell hWX).1 _ _ hb1];exact q4
 have fX4:X.frozen? ⟨w.heap.size+1,4,none⟩=false:=by rw [(bcell hWX).2 _ _ hb1];exact f4
 have HIX:=hid (beIter HIW.out hWX hhW)
 have hX0:w.heap.size<X.heap.size:=by omega
 have hX1:w.heap.size+1<X.heap.size:=by omega
 have hhX:hi≤X.heap.size:=by omega
 have HWX:=hid hWX;have HX:=hid hX;clear hX hBX hWX hr2 hb2w c0 q0 f0 c1 q1 f1 c2 q2 f2 c3 q3 f3 c4 q4 f4
 go_upto_region 2 with fail
 rw [← HX.out]
 refine wp_region_grow (n:=17) (N:=26) (by kernel_rfl) (by kernel_rfl) (by rfl)
  (vp [pEq (.pointer (some ⟨w2.heap.size,0,none⟩)),pEq (.int .i64 ar),pEq (.pointer (some ⟨w2.heap.size,1,none⟩)),pEq (.slice ra n rc),pEq (.agg #[.int .i64 ar,.slice ra n rc]),pEmp 3,pEq (.pointer (some ⟨w.heap.size,2,none⟩)),pEq (.slice la ln lc),pDat intsX ln lw,pEmp 3,pEq (.pointer (some ⟨w.heap.size,3,none⟩)),pEq (.slice ga gn gc),pDat intsX gn gh,pEmp 3,pEq (.pointer (some ⟨w.heap.size,4,none⟩)),pEq (.slice pa pn pc),pDat intsX pn ps])
  (stab_vp (by
   intro p hp
   simp only [List.mem_cons,List.not_mem_nil,or_false] at hp
   rcases hp with rfl | rfl | rfl | rfl | rfl | rfl | rfl | rfl | rfl | rfl | rfl | rfl | rfl | rfl | rfl | rfl | rfl <;> first | exact pEq_st _ | exact pEmp_st _ | exact pDat_st intsXOK _ _)) ?_ ?_
 ·intro i o hi ho a' w' hB hF hdeps
  rcases (by omega:i=0∨i=1∨i=2∨i=3∨i=4∨i=5∨i=6∨i=7∨i=8∨i=9∨i=10∨i=11∨i=12∨i=13∨i=14∨i=15∨i=16) with rfl | rfl | rfl | rfl | rfl | rfl | rfl | rfl | rfl | rfl | rfl | rfl | rfl | rfl | rfl | rfl | rfl
  ·obtain rfl:=Option.some.inj ho
   have e1:=evTmp (hF.ev 3 (by kernel_rfl) rfl)
   refine stepG (v:=.pointer (some ⟨w2.heap.size,0,none⟩)) (s:=w'.heap.size) (t:=w'.heap.size) (w'':=w') ?_ ?_ ?_ ?_ ?_
   ·simp [execOp,e1,go_sem]
   ·exact Below.refl _ _
   ·exact Nat.le_refl _
   ·exact Nat.le_refl _
   ·exact rfl
  ·obtain rfl:=Option.some.inj ho
   obtain ⟨_,_,e'⟩:=hdeps ⟨0,.data⟩ (by simp) (by rfl) _ 8 rfl rfl
   have e:=evTmp (show a'.eval (.tmp 8)=.pointer (some ⟨w2.heap.size,0,none⟩) from e')
   have hc:w'.cell? ⟨w2.heap.size,0,none⟩=some (.int .i64 ar):=by rw [(bcell hB).1 _ _ hbx];exact x0
   refine stepG (v:=.int .i64 ar) (s:=w'.heap.size) (t:=w'.heap.size) (w'':=w') ?_ ?_ ?_ ?_ ?_
   ·simp [execOp,e,go_sem,hc]
   ·exact Below.refl _ _
   ·exact Nat.le_refl _
   ·exact Nat.le_refl _
   ·exact rfl
  ·obtain rfl:=Option.some.inj ho
   have e1:=evTmp (hF.ev 3 (by kernel_rfl) rfl)
   refine stepG (v:=.pointer (some ⟨w2.heap.size,1,none⟩)) (s:=w'.heap.size) (t:=w'.heap.size) (w'':=w') ?_ ?_ ?_ ?_ ?_
   ·simp [execOp,e1,go_sem]
   ·exact Below.refl _ _
   ·exact Nat.le_refl _
   ·exact Nat.le_refl _
   ·exact rfl
  ·obtain rfl:=Option.some.inj ho
   obtain ⟨_,_,e'⟩:=hdeps ⟨2,.data⟩ (by simp) (by rfl) _ 10 rfl rfl
   have e:=evTmp (show a'.eval (.tmp 10)=.pointer (some ⟨w2.heap.size,1,none⟩) from e')
   have hc:w'.cell? ⟨w2.heap.size,1,none⟩=some (.slice ra n rc):=by rw [(bcell hB).1 _ _ hbx];exact x1
   refine stepG (v:=.slice ra n rc) (s:=w'.heap.size) (t:=w'.heap.size) (w'':=w') ?_ ?_ ?_ ?_ ?_
   ·simp [execOp,e,go_sem,hc]
   ·exact Below.refl _ _
   ·exact Nat.le_refl _
   ·exact Nat.le_refl _
   ·exact rfl
  ·obtain rfl:=Option.some.inj ho
   obtain ⟨_,_,e5⟩:=hdeps ⟨1,.data⟩ (by simp) (by rfl) _ 9 rfl rfl
   obtain ⟨_,_,e9⟩:=hdeps ⟨3,.data⟩ (by simp) (by rfl) _ 11 rfl rfl
   have e5':a'.eval (.tmp 9)=.int .i64 ar:=e5
   have e9':a'.eval (.tmp 11)=.slice ra n rc:=e9
   refine stepG (v:=.agg #[.int .i64 ar,.slice ra n rc]) (s:=w'.heap.size) (t:=w'.heap.size) (w'':=w') ?_ ?_ ?_ ?_ ?_
   ·simp [execOp,evTmp e5',evTmp e9',Act.eval,go_sem]
   ·exact Below.refl _ _
   ·exact Nat.le_refl _
   ·exact Nat.le_refl _
   ·rfl
  ·obtain rfl:=Option.some.inj ho
   refine stepG (v:=.slice (some ⟨w'.heap.size,0,none⟩) 0 0) (s:=w'.heap.size) (t:=w'.heap.size) (w'':=w'.alloc (.cells #[] 3)) ?_ ?_ ?_ ?_ ?_
   ·simp [execOp,go_sem]
   ·exact belA
   ·exact Nat.le_refl _
   ·simp
   ·exact ⟨w'.heap.size,rfl,heap_alloc_new _ _⟩
  ·obtain rfl:=Option.some.inj ho
   have e1:=evTmp (hF.ev 1 (by kernel_rfl) rfl)
   refine stepG (v:=.pointer (some ⟨w.heap.size,2,none⟩)) (s:=w'.heap.size) (t:=w'.heap.size) (w'':=w') ?_ ?_ ?_ ?_ ?_
   ·simp [execOp,e1,go_sem]
   ·exact Below.refl _ _
   ·exact Nat.le_refl _
   ·exact Nat.le_refl _
   ·exact rfl
  ·obtain rfl:=Option.some.inj ho
   obtain ⟨_,_,e'⟩:=hdeps ⟨6,.data⟩ (by simp) (by rfl) _ 14 rfl rfl
   have e:=evTmp (show a'.eval (.tmp 14)=.pointer (some ⟨w.heap.size,2,none⟩) from e')
   have hc:w'.cell? ⟨w.heap.size,2,none⟩=some (.slice la ln lc):=by rw [(bcell hB).1 _ _ hX0];exact cX2
   refine stepG (v:=.slice la ln lc) (s:=w'.heap.size) (t:=w'.heap.size) (w'':=w') ?_ ?_ ?_ ?_ ?_
   ·simp [execOp,e,go_sem,hc]
   ·exact Below.refl _ _
   ·exact Nat.le_refl _
   ·exact Nat.le_refl _
   ·exact rfl
  ·obtain rfl:=Option.some.inj ho
   obtain ⟨_,_,g,e1,hg⟩:=hdeps ⟨5,.data⟩ (by simp) (by rfl) _ 13 rfl rfl
   obtain ⟨_,_,e2⟩:=hdeps ⟨7,.data⟩ (by simp) (by rfl) _ 15 rfl rfl
   have e1':a'.eval (.tmp 13)=.slice (some ⟨g,0,none⟩) 0 0:=e1
   have e2':a'.eval (.tmp 15)=.slice la ln lc:=e2
   obtain ⟨a1,c1,w3,s,t,hr,hb3,k1,k2,k3,k4⟩:=run_append_ints 27 g hg la ln lc lw (HIX.out.2.1.be hB hhX) (by omega)
   refine stepG (v:=.slice a1 ln c1) (s:=s) (t:=t) (w'':=w3) ?_ hb3 k1 k2 ⟨k2,k4,a1,c1,rfl,k3⟩
   simp [execOp,resolve,invoke,builtin,e1',e2',hr,Result.andThen]
  ·obtain rfl:=Option.some.inj ho
   refine stepG (v:=.slice (some ⟨w'.heap.size,0,none⟩) 0 0) (s:=w'.heap.size) (t:=w'.heap.size) (w'':=w'.alloc (.cells #[] 3)) ?_ ?_ ?_ ?_ ?_
   ·simp [execOp,go_sem]
   ·exact belA
   ·exact Nat.le_refl _
   ·simp
   ·exact ⟨w'.heap.size,rfl,heap_alloc_new _ _⟩
  ·obtain rfl:=Option.some.inj ho
   have e1:=evTmp (hF.ev 1 (by kernel_rfl) rfl)
   refine stepG (v:=.pointer (some ⟨w.heap.size,3,none⟩)) (s:=w'.heap.size) (t:=w'.heap.size) (w'':=w') ?_ ?_ ?_ ?_ ?_
   ·simp [execOp,e1,go_sem]
   ·exact Below.refl _ _
   ·exact Nat.le_refl _
   ·exact Nat.le_refl _
   ·exact rfl
  ·obtain rfl:=Option.some.inj ho
   obtain ⟨_,_,e'⟩:=hdeps ⟨10,.data⟩ (by simp) (by rfl) _ 18 rfl rfl
   have e:=evTmp (show a'.eval (.tmp 18)=.pointer (some ⟨w.heap.size,3,none⟩) from e')
   have hc:w'.cell? ⟨w.heap.size,3,none⟩=some (.slice ga gn gc):=by rw [(bcell hB).1 _ _ hX0];exact cX3
   refine stepG (v:=.slice ga gn gc) (s:=w'.heap.size) (t:=w'.heap.size) (w'':=w') ?_ ?_ ?_ ?_ ?_
   ·simp [execOp,e,go_sem,hc]
   ·exact Below.refl _ _
   ·exact Nat.le_refl _
   ·exact Nat.le_refl _
   ·exact rfl
  ·obtain rfl:=Option.some.inj ho
   obtain ⟨_,_,g,e1,hg⟩:=hdeps ⟨9,.data⟩ (by simp) (by rfl) _ 17 rfl rfl
   obtain ⟨_,_,e2⟩:=hdeps ⟨11,.data⟩ (by simp) (by rfl) _ 19 rfl rfl
   have e1':a'.eval (.tmp 17)=.slice (some ⟨g,0,none⟩) 0 0:=e1
   have e2':a'.eval (.tmp 19)=.slice ga gn gc:=e2
   obtain ⟨a1,c1,w3,s,t,hr,hb3,k1,k2,k3,k4⟩:=run_append_ints 27 g hg ga gn gc gh (HIX.out.2.2.1.be hB hhX) (by omega)
   refine stepG (v:=.slice a1 gn c1) (s:=s) (t:=t) (w'':=w3) ?_ hb3 k1 k2 ⟨k2,k4,a1,c1,rfl,k3⟩
   simp [execOp,resolve,invoke,builtin,e1',e2',hr,Result.andThen]
  ·obtain rfl:=Option.some.inj ho
   refine stepG (v:=.slice (some ⟨w'.heap.size,0,none⟩) 0 0) (s:=w'.heap.size) (t:=w'.heap.size) (w'':=w'.alloc (.cells #[] 3)) ?_ ?_ ?_ ?_ ?_
   ·simp [execOp,go_sem]
   ·exact belA
   ·exact Nat.le_refl _
   ·simp
   ·exact ⟨w'.heap.size,rfl,heap_alloc_new _ _⟩
  ·obtain rfl:=Option.some.inj ho
   have e1:=evTmp (hF.ev 1 (by kernel_rfl) rfl)
   refine stepG (v:=.pointer (some ⟨w.heap.size,4,none⟩)) (s:=w'.heap.size) (t:=w'.heap.size) (w'':=w') ?_ ?_ ?_ ?_ ?_
   ·simp [execOp,e1,go_sem]
   ·exact Below.refl _ _
   ·exact Nat.le_refl _
   ·exact Nat.le_refl _
   ·exact rfl
  ·obtain rfl:=Option.some.inj ho
   obtain ⟨_,_,e'⟩:=hdeps ⟨14,.data⟩ (by simp) (by rfl) _ 22 rfl rfl
   have e:=evTmp (show a'.eval (.tmp 22)=.pointer (some ⟨w.heap.size,4,none⟩) from e')
   have hc:w'.cell? ⟨w.heap.size,4,none⟩=some (.slice pa pn pc):=by rw [(bcell hB).1 _ _ hX0];exact cX4
   refine stepG (v:=.slice pa pn pc) (s:=w'.heap.size) (t:=w'.heap.size) (w'':=w') ?_ ?_ ?_ ?_ ?_
   ·simp [execOp,e,go_sem,hc]
   ·exact Below.refl _ _
   ·exact Nat.le_refl _
   ·exact Nat.le_refl _
   ·exact rfl
  ·obtain rfl:=Option.some.inj ho
   obtain ⟨_,_,g,e1,hg⟩:=hdeps ⟨13,.data⟩ (by simp) (by rfl) _ 21 rfl rfl
   obtain ⟨_,_,e2⟩:=hdeps ⟨15,.data⟩ (by simp) (by rfl) _ 23 rfl rfl
   have e1':a'.eval (.tmp 21)=.slice (some ⟨g,0,none⟩) 0 0:=e1
   have e2':a'.eval (.tmp 23)=.slice pa pn pc:=e2
   obtain ⟨a1,c1,w3,s,t,hr,hb3,k1,k2,k3,k4⟩:=run_append_ints 27 g hg pa pn pc ps (HIX.out.2.2.2.be hB hhX) (by omega)
   refine stepG (v:=.slice a1 pn c1) (s:=s) (t:=t) (w'':=w3) ?_ hb3 k1 k2 ⟨k2,k4,a1,c1,rfl,k3⟩
   simp [execOp,resolve,invoke,builtin,e1',e2',hr,Result.andThen]
 ·intro a' w' s t hB hF hV hD
  obtain ⟨⟨l⟩,df⟩:=a'
  obtain rfl:df=[]:=hF.1
  have hlen:l.length=26:=hF.2.1
  match l,hlen with
  | [u0,u1,u2,u3,u4,u5,u6,u7,u8,u9,u10,u11,u12,u13,u14,u15,u16,u17,u18,u19,u20,u21,u22,u23,u24,u25],_ =>
   have e2:u2=.pointer (some ⟨w.heap.size+1,0,none⟩):=hF.at 2 (by kernel_rfl)
   obtain ⟨_,_,e12⟩:=hV 4 _ 12 (by omega) rfl rfl
   obtain ⟨hs8,ht8,_,_,a8,c8,e16,r8⟩:=hV 8 _ 16 (by omega) rfl rfl
   obtain ⟨hs12,ht12,_,_,a12,c12,e20,r12⟩:=hV 12 _ 20 (by omega) rfl rfl
   obtain ⟨hs16,ht16,_,_,a16,c16,e24,r16⟩:=hV 16 _ 24 (by omega) rfl rfl
   replace e12:u12=.agg #[.int .i64 ar,.slice ra n rc]:=e12
   replace e16:u16=.slice a8 ln c8:=e16
   replace e20:u20=.slice a12 gn c12:=e20
   replace e24:u24=.slice a16 pn c16:=e24
   subst e12;subst e16;subst e20;subst e24;subst e2
   have Q0:w'.cell? ⟨w.heap.size+1,0,none⟩=some (.int .i64 0):=by rw [(bcell hB).1 _ _ hX1];exact qX0
   have F0:w'.frozen? ⟨w.heap.size+1,0,none⟩=false:=by rw [(bcell hB).2 _ _ hX1];exact fX0
   have Q1:w'.cell? ⟨w.heap.size+1,1,none⟩=some (.slice none 0 0):=by rw [(bcell hB).1 _ _ hX1];exact qX1
   have F1:w'.frozen? ⟨w.heap.size+1,1,none⟩=false:=by rw [(bcell hB).2 _ _ hX1];exact fX1
   have Q2:w'.cell? ⟨w.heap.size+1,2,none⟩=some (.slice none 0 0):=by rw [(bcell hB).1 _ _ hX1];exact qX2
   have F2:w'.frozen? ⟨w.heap.size+1,2,none⟩=false:=by rw [(bcell hB).2 _ _ hX1];exact fX2
   have Q3:w'.cell? ⟨w.heap.size+1,3,none⟩=some (.slice none 0 0):=by rw [(bcell hB).1 _ _ hX1];exact qX3
   have F3:w'.frozen? ⟨w.heap.size+1,3,none⟩=false:=by rw [(bcell hB).2 _ _ hX1];exact fX3
   have Q4:w'.cell? ⟨w.heap.size+1,4,none⟩=some (.slice none 0 0):=by rw [(bcell hB).1 _ _ hX1];exact qX4
   have F4:w'.frozen? ⟨w.heap.size+1,4,none⟩=false:=by rw [(bcell hB).2 _ _ hX1];exact fX4
   have HD:=hid (And.intro (hD 8 12 (by omega) (by omega) (by omega)) (And.intro (hD 8 16 (by omega) (by omega) (by omega)) (hD 12 16 (by omega) (by omega) (by omega))))
   have r0:=SepA.keep intsQOK HRX.out (Keeps.of_below hB (by omega))
   have HR:=hid (And.intro r0 (And.intro r8 (And.intro r12 (And.intro r16 (And.intro (And.intro hs8 ht8) (And.intro (And.intro hs12 ht12) (And.intro hs16 ht16)))))))
   have HBB:=hid hB
   clear hV hD hF r0 r8 r12 r16 hs8 ht8 hs12 ht12 hs16 ht16 hB qX0 fX0 qX1 fX1 qX2 fX2 qX3 fX3 qX4 fX4
   change wpList _ _ _ [_,_] _ _
   go_wp2
   have hzz:=HBB.out.size
   refine bodyPost_ret (v:=iterV ar ra n rc a8 ln c8 a12 gn c12 a16 pn c16) (by simp [results,Try.results29,go_sem,Q0,Q1,Q2,Q3,Q4]) rfl ⟨_,_,_,_,_,_,_,_,_,_,_,_,rfl,?_,?_⟩
   ·have h1:IterX (w.heap.size+2) w'.heap.size w' ar ra n rc rows a8 ln c8 lw a12 gn c12 gh a16 pn c16 ps:=⟨HAR.out,w1.heap.size,w2.heap.size,_,_,_,_,_,_,HR.out.1,HR.out.2.1,HR.out.2.2.1,HR.out.2.2.2.1,by have h:=HD.out;have h2:=HR.out.2.2.2.2;have h3:=HZ.out;unfold Apart4;omega⟩
    refine hgIterX (hi:=w'.heap.size) (wdIterX (lo:=w.heap.size+2) (kpIterX h1 ?_) (by omega)) (by simp only [sz_set];exact Nat.le_refl _)
    exact Keeps.sc (Keeps.sc (Keeps.sc (Keeps.sc (Keeps.sc (Keeps.refl _ _ _) (.inl (by omega)) _) (.inl (by omega)) _) (.inl (by omega)) _) (.inl (by omega)) _) (.inl (by omega)) _
   ·have hq:=HBW.out.trans ((HWX.out.trans (HBB.out.mono (by omega))).mono (by omega));exact (by repeat (first | with_reducible assumption | with_reducible exact Below.refl _ _ | with_reducible refine below_drewN ?_ _ | with_reducible refine below_drew1 ?_ | with_reducible refine Below.al ?_ (by first | with_reducible exact Nat.le_refl _ | omega | (simp;done) | (simp;omega) | exact Nat.le_refl _) _ | with_reducible refine Below.setCell ?_ (by first | with_reducible exact Nat.le_refl _ | omega | (simp;done) | (simp;omega) | exact Nat.le_refl _) _ | assumption | exact Below.refl _ _ | refine below_drewN ?_ _ | refine below_drew1 ?_ | refine Below.al ?_ (by first | with_reducible exact Nat.le_refl _ | omega | (simp;done) | (simp;omega) | exact Nat.le_refl _) _ | refine Below.setCell ?_ (by first | with_reducible exact Nat.le_refl _ | omega | (simp;done) | (simp;omega) | exact Nat.le_refl _) _))
theorem specCopyIt {fz:Bool} {lo hi:Nat} (ar:Int) (a:Option Addr) (n c:Nat) (rows:List (List Int)) (la:Option Addr) (ln lc:Nat) (lw:List Int) (ga:Option Addr) (gn gc:Nat) (gh:List Int) (pa:Option Addr) (pn pc:Nat) (ps:List Int) (w:World) (hI:IterA fz lo hi w ar a n c rows la ln lc lw ga gn gc gh pa pn pc ps) (hh:hi≤w.heap.size) (hs:szIter rows lw gh ps≤1048576) :
 Calls Try.prog 29 #[iterV ar a n c la ln lc ga gn gc pa pn pc] w (GvIterS w ar rows lw gh ps):=(specCopyItX ar a n c rows la ln lc lw ga gn gc gh pa pn pc ps w hI hh hs).mono fun _ _ h=>h.s
end Go.Proofs.Ytfobmfngbfbfdaa
namespace Go.Proofs.Ytfobmfngbfbfdaa
set_option linter.unusedSimpArgs false
set_option linter.unusedVariables false
open Go.RowKit
def GvItB (w:World) (ar:Int) (rows:List (List Int)) (lw gh ps:List Int) (ok:Bool) (e:Ending) (w':World):Prop :=
 ∃ a n c la ln lc ga gn gc pa pn pc,e=.returned (.tuple #[iterV ar a n c la ln lc ga gn gc pa pn pc,.bool ok])∧IterS w.heap.size w'.heap.size w' ar a n c rows la ln lc lw ga gn gc gh pa pn pc ps∧Below w.heap.size w w'
noncomputable def niAr (ar:Int) (rows:List (List Int)):Int:=if validR ar rows=true then ar else 0
noncomputable def niRows (ar:Int) (rows:List (List Int)):List (List Int):=if validR ar rows=true then rows else []
theorem nilInts (fz:Bool) (lo hi:Nat) (w:World):IntsA fz lo hi w none 0 0 []:=⟨rfl,Nat.le_refl _,by simp [maxLen],(by simp),fun h=>absurd h (Nat.lt_irrefl 0),fun _=>rfl⟩
theorem nilRowsS (lo:Nat) (w:World):RowsS lo w.heap.size w none 0 0 []:=SepA.own (e:=27) (base:=lo) (ownV_nil _ _ _) (SepV.nil _ _ _ _)
theorem nilIterS (lo:Nat) (w:World) (h:lo≤w.heap.size):IterS lo w.heap.size w 0 none 0 0 [] none 0 0 [] none 0 0 [] none 0 0 [] :=
 ⟨by unfold I64;omega,lo,w.heap.size,w.heap.size,w.heap.size,w.heap.size,w.heap.size,w.heap.size,w.heap.size,nilRowsS _ _,nilInts _ _ _ _,nilInts _ _ _ _,nilInts _ _ _ _,by unfold Apart4;omega⟩
set_option maxRecDepth 100000 in
set_option maxHeartbeats 12800000 in
theorem specNewIt {fz:Bool} {lo hi:Nat} (ar:Int) (a:Option Addr) (n c:Nat) (rows:List (List Int)) (w:World) (hI:RowsA fz lo hi w a n c rows) (hh:hi≤w.heap.size) (har:I64 ar) (hs:rowsSz rows≤1048576) :
 Calls Try.prog 55 #[trieV ar a n c] w (GvItB w (niAr ar rows) (niRows ar rows) [] [] [] (validR ar rows)):=by
 have HAR:=hid har;have HS:=hid hs;clear har hs
 obtain ⟨W,hW⟩:∃ W,W=(w.alloc (.cells #[.int .i64 ar,.slice a n c] 26)).alloc (.cells #[.int .i64 0,.slice none 0 0,.slice none 0 0,.slice none 0 0,.slice none 0 0] 29):=⟨_,rfl⟩
 have hBW:Below w.heap.size w W:=by rw [hW];exact belA
 have hz:W.heap.size=w.heap.size+2:=by rw [hW];simp
 have c0:W.cell? ⟨w.heap.size,0,none⟩=some (.int .i64 ar):=by rw [hW];first | (go_simp;done) | (simp [World.cell?];done)
 have c1:W.cell? ⟨w.heap.size,1,none⟩=some (.slice a n c):=by rw [hW];first | (go_simp;done) | (simp [World.cell?];done)
 have q0:W.cell? ⟨w.heap.size+1,0,none⟩=some (.int .i64 0):=by rw [hW];first | (go_simp;done) | (simp [World.cell?];done)
 have f0:W.frozen? ⟨w.heap.size+1,0,none⟩=false:=by rw [hW];first | (go_simp;done) | (simp [World.frozen?];done)
 have q1:W.cell? ⟨w.heap.size+1,1,none⟩=some (.slice none 0 0):=by rw [hW];first | (go_simp;done) | (simp [World.cell?];done)
 have f1:W.frozen? ⟨w.heap.size+1,1,none⟩=false:=by rw [hW];first | (go_simp;done) | (simp [World.frozen?];done)
 have q2:W.cell? ⟨w.heap.size+1,2,none⟩=some (.slice none 0 0):=by rw [hW];first | (go_simp;done) | (simp [World.cell?];done)
 have f2:W.frozen? ⟨w.heap.size+1,2,none⟩=false:=by rw [hW];first | (go_simp;done) | (simp [World.frozen?];done)
 have q3:W.cell? ⟨w.heap.size+1,3,none⟩=some (.slice none 0 0):=by rw [hW];first | (go_simp;done) | (simp [World.cell?];done)
 have f3:W.frozen? ⟨w.heap.size+1,3,none⟩=false:=by rw [hW];first | (go_simp;done) | (simp [World.frozen?];done)
 have q4:W.cell? ⟨w.heap.size+1,4,none⟩=some (.slice none 0 0):=by rw [hW];first | (go_simp;done) | (simp [World.cell?];done)
 have f4:W.frozen? ⟨w.heap.size+1,4,none⟩=false:=by rw [hW];first | (go_simp;done) | (simp [World.frozen?];done)
 have HIW:=hid (hI.be intsOK hBW hh)
 have hhW:hi≤W.heap.size:=by omega
 have hb0:w.heap.size<W.heap.size:=by omega
 have hb1':w.heap.size+1<W.heap.size:=by omega
 have HBW:=hid hBW;have HW:=hid hW;have HZ:=hid hz;clear hW hBW hz
 go_enter Try.func55,Try.ntmps55
 go_upto_region 1 with fail
 rw [← HW.out]
 go_wp2_with fail
 refine (specValidTrie ar a n c rows _ HIW.out hhW HAR.out).mono ?_
 rintro e w1 ⟨rfl,hb1⟩
 have hz:=hb1.size
 have c0':w1.cell? ⟨w.heap.size,0,none⟩=some (.int .i64 ar):=by rw [(bcell hb1).1 _ _ hb0];exact c0
 have c1':w1.cell? ⟨w.heap.size,1,none⟩=some (.slice a n c):=by rw [(bcell hb1).1 _ _ hb0];exact c1
 have q0':w1.cell? ⟨w.heap.size+1,0,none⟩=some (.int .i64 0):=by rw [(bcell hb1).1 _ _ hb1'];exact q0
 have f0':w1.frozen? ⟨w.heap.size+1,0,none⟩=false:=by rw [(bcell hb1).2 _ _ hb1'];exact f0
 have q1':w1.cell? ⟨w.heap.size+1,1,none⟩=some (.slice none 0 0):=by rw [(bcell hb1).1 _ _ hb1'];exact q1
 have f1':w1.frozen? ⟨w.heap.size+1,1,none⟩=false:=by rw [(bcell hb1).2 _ _ hb1'];exact f1
 have q2':w1.cell? ⟨w.heap.size+1,2,none⟩=some (.slice none 0 0):=by rw [(bcell hb1).1 _ _ hb1'];exact q2
 have f2':w1.frozen? ⟨w.heap.size+1,2,none⟩=false:=by rw [(bcell hb1).2 _ _ hb1'];exact f2
 have q3':w1.cell? ⟨w.heap.size+1,3,none⟩=some (.slice none 0 0):=by rw [(bcell hb1).1 _ _ hb1'];exact q3
 have f3':w1.frozen? ⟨w.heap.size+1,3,none⟩=false:=by rw [(bcell hb1).2 _ _ hb1'];exact f3
 have q4':w1.cell? ⟨w.heap.size+1,4,none⟩=some (.slice none 0 0):=by rw [(bcell hb1).1 _ _ hb1'];exact q4
 have f4':w1.frozen? ⟨w.heap.size+1,4,none⟩=false:=by rw [(bcell hb1).2 _ _ hb1'];exact f4
 have HB1:=hid hb1;clear hb1 c0 c1 q0 f0 q1 f1 q2 f2 q3 f3 q4 f4
 by_cases hv:validR ar rows=true
 ·rw [hv]
  go_wp2_with fail
  refine (specCopyIt ar a n c rows none 0 0 [] none 0 0 [] none 0 0 [] _ ⟨⟨HAR.out,HIW.out.be intsOK HB1.out hhW⟩,nilInts _ _ _ _,nilInts _ _ _ _,nilInts _ _ _ _⟩ (by omega) (by have:=HS.out;simp [szIter];omega)).mono ?_
  rintro e w2 ⟨ra,rn,rc,la,ln,lc,ga,gn,gc,pa,pn,pc,rfl,hS,hb2⟩
  have hz2:=hb2.size
  have q0w:w2.cell? ⟨w.heap.size+1,0,none⟩=some (.int .i64 0):=by rw [(bcell hb2).1 _ _ (by omega)];exact q0'
  have f0w:w2.frozen? ⟨w.heap.size+1,0,none⟩=false:=by rw [(bcell hb2).2 _ _ (by omega)];exact f0'
  have q1w:w2.cell? ⟨w.heap.size+1,1,none⟩=some (.slice none 0 0):=by rw [(bcell hb2).1 _ _ (by omega)];exact q1'
  have f1w:w2.frozen? ⟨w.heap.size+1,1,none⟩=false:=by rw [(bcell hb2).2 _ _ (by omega)];exact f1'
  have q2w:w2.cell? ⟨w.heap.size+1,2,none⟩=some (.slice none 0 0):=by rw [(bcell hb2).1 _ _ (by omega)];exact q2'
  have f2w:w2.frozen? ⟨w.heap.size+1,2,none⟩=false:=by rw [(bcell hb2).2 _ _ (by omega)];exact f2'
  have q3w:w2.cell? ⟨w.heap.size+1,3,none⟩=some (.slice none 0 0):=by rw [(bcell hb2).1 _ _ (by omega)];exact q3'
  have f3w:w2.frozen? ⟨w.heap.size+1,3,none⟩=false:=by rw [(bcell hb2).2 _ _ (by omega)];exact f3'
  have q4w:w2.cell? ⟨w.heap.size+1,4,none⟩=some (.slice none 0 0):=by rw [(bcell hb2).1 _ _ (by omega)];exact q4'
  have f4w:w2.frozen? ⟨w.heap.size+1,4,none⟩=false:=by rw [(bcell hb2).2 _ _ (by omega)];exact f4'
  have HS2:=hid hS;have HB2:=hid hb2;clear hS hb2 q0' f0' q1' f1' q2' f2' q3' f3' q4' f4'
  go_wp2
  refine bodyPost_ret (v:=.tuple #[iterV ar ra rn rc la ln lc ga gn gc pa pn pc,.bool true]) (by simp [results,Try.results55,go_sem,q0w,q1w,q2w,q3w,q4w]) rfl ⟨ra,rn,rc,la,ln,lc,ga,gn,gc,pa,pn,pc,by rw [hv,show niAr ar rows=ar from if_pos hv],?_,?_⟩
  ·have h1:IterS w1.heap.size w2.heap.size w2 (niAr ar rows) ra rn rc (niRows ar rows) la ln lc [] ga gn gc [] pa pn pc []:=by unfold niAr niRows;rw [if_pos hv,if_pos hv];exact HS2.out
   refine hgIterS (hi:=w2.heap.size) (wdIterS (lo:=w1.heap.size) (kpIterS h1 ?_) (by have:=HZ.out;omega)) (by simp only [sz_set];exact Nat.le_refl _)
   exact Keeps.sc (Keeps.sc (Keeps.sc (Keeps.sc (Keeps.sc (Keeps.refl _ _ _) (.inl (by omega)) _) (.inl (by omega)) _) (.inl (by omega)) _) (.inl (by omega)) _) (.inl (by omega)) _
  ·have hq:=HBW.out.trans ((HB1.out.trans (HB2.out.mono (by omega))).mono (by omega));exact (((((hq.setCell (by simp) _).setCell (by simp) _).setCell (by simp) _).setCell (by simp) _).setCell (by simp) _)
 ·have hv':validR ar rows=false:=by simpa using hv
  rw [hv']
  go_wp2
  refine bodyPost_ret (v:=.tuple #[iterV 0 none 0 0 none 0 0 none 0 0 none 0 0,.bool false]) (by simp [results,Try.results55,go_sem,q0',q1',q2',q3',q4']) rfl ⟨none,0,0,none,0,0,none,0,0,none,0,0,by rw [hv',show niAr ar rows=0 from if_neg hv],?_,?_⟩
  ·have h1:niAr ar rows=0:=by unfold niAr;exact if_neg hv
   have h2:niRows ar rows=[]:=by unfold niRows;exact if_neg hv
   rw [h1,h2]
   exact nilIterS _ _ (by have:=HZ.out;simp only [sz_set];omega)
  ·have hq:=HBW.out.trans (HB1.out.mono (by omega));exact (((((hq.setCell (by simp) _).setCell (by simp) _).setCell (by simp) _).setCell (by simp) _).setCell (by simp) _)
end Go.Proofs.Ytfobmfngbfbfdaa
namespace Go.Proofs.Ytfobmfngbfbfdaa
set_option linter.unusedSimpArgs false
set_option linter.unusedVariables false
open Go.RowKit
section
variable {P:Program} {C:World→Prop}
def qtB (l:List Oper) (n:Nat):Bool :=
 Region.lexB .any (l.take n).toArray && decide (n<l.length) && Region.sinkB .any l.toArray n && Region.chainB .any l.toArray n &&
 (List.range n).all (fun i=>match l[i]? with
  | some o=>(match o.guard with | some g=>decide (g.1<n) | none=>true) && o.after.toList.all (fun e=>!Region.binds .any e || decide (e.on<i))
  | none=>true) &&
 Region.seqB .any l.toArray (l.length - n) n ((List.range n).foldl (fun s i=>s.setIfInBounds i true) (Array.replicate l.length false))
theorem wpAny_more {md:Region.Mode} {ops:Array Oper} {Q:Exit→Act→World→Prop}:∀ (f:Nat) (listed:Array Bool) (a:Act) (w:World),wpAny P md ops Q f listed a w→wpAny P md ops Q (f+1) listed a w
 | 0,_,_,_,h=>⟨fun _=>h.2,fun i hi=>by rw [h.1] at hi;cases hi⟩
 | f+1,_,_,_,h=>⟨h.1,fun i hi=>wpOp_mono (fun a' w' h'=>wpAny_more f _ a' w' h') (h.2 i hi)⟩
theorem wpAny_plus {md:Region.Mode} {ops:Array Oper} {Q:Exit→Act→World→Prop} {g:Nat} {listed:Array Bool} {a:Act} {w:World} (h:wpAny P md ops Q g listed a w):∀ f:Nat,wpAny P md ops Q (f+g) listed a w
 | 0=>by rw [Nat.zero_add];exact h
 | f+1=>by rw [show f+1+g=(f+g)+1 by omega];exact wpAny_more _ _ _ _ (wpAny_plus h f)
theorem foldl_set (n:Nat):∀ (s:Array Bool),((List.range n).foldl (fun s i=>s.setIfInBounds i true) s).size=s.size∧∀ j b,((List.range n).foldl (fun s i=>s.setIfInBounds i true) s).getD j b=if j<n∧j<s.size then true else s.getD j b:=by
 induction n with
 | zero=>intro s;exact ⟨rfl,fun j b=>by simp⟩
 | succ n ih =>
  intro s
  rw [List.range_succ,List.foldl_append]
  obtain ⟨h1,h2⟩:=ih s
  refine ⟨by simp [h1],fun j b=>?_⟩
  simp only [List.foldl_cons,List.foldl_nil]
  by_cases e:n=j
  ·subst e
   by_cases hs:n<s.size
   ·simp [h1,hs]
   ·simp only [Array.getD_eq_getD_getElem?] at h2 ⊢
    rw [Array.getElem?_eq_none (by simp [h1];omega)]
    have:=h2 n b
    rw [Array.getElem?_eq_none (by simp [h1];omega)] at this
    rw [if_neg (by omega)] at this ⊢
    exact this
  ·rw [getD_set_ne b e,h2 j b]
   by_cases hh:j<n∧j<s.size
   ·rw [if_pos hh,if_pos ⟨by omega,hh.2⟩]
   ·rw [if_neg hh,if_neg (by omega)]
theorem wanted_take {l:List Oper} {n:Nat} {o:Oper} {a:Act} (h:∀ g,o.guard=some g→g.1<n):Region.wanted o (yielded (l.take n).toArray a.tmps)=Region.wanted o (yielded l.toArray a.tmps):=by
 unfold Region.wanted
 cases hg:o.guard with
 | none=>rfl
 | some g =>
  have:=h g hg
  simp only [yielded,List.getElem?_toArray,List.getElem?_take_of_lt this]
theorem qt_any {l:List Oper} {n:Nat} {Qa:Act→Prop} {Q':Exit→Act→World→Prop} (hn:n<l.length) (hs:Region.sinkB .any l.toArray n=true) (hc:Region.chainB .any l.toArray n=true)
 (hb:∀ i o,i<n→l[i]? = some o→(∀ g,o.guard=some g→g.1<n)∧∀ e∈o.after,Region.binds .any e=true→e.on<i)
 (hq:Region.seqB .any l.toArray (l.length - n) n ((List.range n).foldl (fun s i=>s.setIfInBounds i true) (Array.replicate l.length false))=true)
 (hL:∀ a w,C w→Qa a→wpList P l.toArray Q' (l.drop n) a w) :
 ∀ (f:Nat) (listed listed':Array Bool) (a:Act) (w:World),C w→HeadInv .any l.toArray n listed→listed'.size=n→(∀ i b,i<n→listed'.getD i b=listed.getD i b) →
  wpAnyQ P .any (l.take n).toArray C Qa f listed' a→wpAny P .any l.toArray Q' (f+(l.length - n)) listed a w:=by
 have htk:∀ i,i<n→(l.take n).toArray[i]? = l.toArray[i]?:=fun i hi=>by simp [List.getElem?_take_of_lt hi]
 have szl:l.toArray.size=l.length:=by simp
 have hready:∀ (listed listed':Array Bool) i,HeadInv .any l.toArray n listed→listed'.size=n→(∀ i b,i<n→listed'.getD i b=listed.getD i b)→i<n→(i∈Region.ready .any l.toArray listed↔i∈Region.ready .any (l.take n).toArray listed'):=by
  intro listed listed' i inv hsz hll hi
  rw [mem_ready,mem_ready,hll i true hi,htk i hi]
  refine and_congr_right fun _=>⟨fun ⟨o,ho,h⟩=>⟨o,ho,fun e he hbd=>?_⟩,fun ⟨o,ho,h⟩=>⟨o,ho,fun e he hbd=>?_⟩⟩
  ·have:=(hb i o hi (by simpa using ho)).2 e he hbd
   rw [hll e.on false (by omega)];exact h e he hbd
  ·have:=(hb i o hi (by simpa using ho)).2 e he hbd
   rw [← hll e.on false (by omega)];exact h e he hbd
 have hdone:∀ (listed listed':Array Bool) (a:Act) (w:World),C w→HeadInv .any l.toArray n listed→listed'.size=n→(∀ i b,i<n→listed'.getD i b=listed.getD i b)→Region.ready .any (l.take n).toArray listed'=[]→Qa a→wpAny P .any l.toArray Q' (l.length - n) listed a w:=by
  intro listed listed' a w hw inv hsz hll hr hQ
  have hall:∀ k i,i≤k→i<n→listed.getD i false=true:=by
   intro k
   induction k with
   | zero =>
    intro i hik hi
    obtain rfl:i=0:=by omega
    cases hx:listed.getD 0 false with
    | true=>rfl
    | false =>
     have h1:(0:Nat)∈Region.ready .any l.toArray listed:=by
      rw [mem_ready]
      refine ⟨getD_in (by rw [inv.size,szl];omega) hx,l[0],by simp,fun e he hbd=>?_⟩
      have:=(hb 0 _ hi (by simp)).2 e he hbd
      omega
     rw [hready listed listed' 0 inv hsz hll hi,hr] at h1
     cases h1
   | succ k ih =>
    intro i hik hi
    by_cases hik':i≤k
    ·exact ih i hik' hi
    ·cases hx:listed.getD i false with
     | true=>rfl
     | false =>
      have hil:i<l.length:=by omega
      have h1:i∈Region.ready .any l.toArray listed:=by
       rw [mem_ready]
       refine ⟨getD_in (by rw [inv.size,szl];omega) hx,l[i],by simp [hil],fun e he hbd=>?_⟩
       have:=(hb i _ hi (by simp [hil])).2 e he hbd
       exact ih e.on (by omega) (by omega)
      rw [hready listed listed' i inv hsz hll hi,hr] at h1
      cases h1
  have hcan:listed=(List.range n).foldl (fun s i=>s.setIfInBounds i true) (Array.replicate l.length false):=by
   obtain ⟨h1,h2⟩:=foldl_set n (Array.replicate l.length false)
   apply Array.ext
   ·rw [h1,inv.size];simp
   ·intro i hi1 hi2
    have e1:listed[i]=listed.getD i false:=by simp [hi1]
    have e2:=h2 i false
    have e3:((List.range n).foldl (fun s i=>s.setIfInBounds i true) (Array.replicate l.length false))[i]=((List.range n).foldl (fun s i=>s.setIfInBounds i true) (Array.replicate l.length false)).getD i false:=by simp [hi2]
    rw [e1,e3,e2]
    have hil:i<l.length:=by rw [inv.size,szl] at hi1;exact hi1
    by_cases hin:i<n
    ·rw [if_pos ⟨hin,by simpa using hil⟩];exact hall i i (Nat.le_refl _) hin
    ·rw [if_neg (by omega),getD_replicate_false]
     exact getD_both (inv.tail i (by omega) (by rw [szl];exact hil))
  have h3:=wpAny_of_seq (P:=P) (md:=.any) (Q':=Q') (l.drop n) n listed a w (fun j=>by simp [List.getElem?_drop]) (by rw [List.length_drop,hcan];exact hq) (hL a w hw hQ)
  rwa [List.length_drop] at h3
 intro f
 induction f with
 | zero =>
  intro listed listed' a w hw inv hsz hll h
  rw [Nat.zero_add]
  exact hdone listed listed' a w hw inv hsz hll h.1 h.2
 | succ f ih =>
  intro listed listed' a w hw inv hsz hll h
  by_cases hr:Region.ready .any (l.take n).toArray listed'=[]
  ·exact wpAny_plus (hdone listed listed' a w hw inv hsz hll hr (h.1 hr)) _
  ·obtain ⟨i0,hi0⟩:=List.exists_mem_of_ne_nil _ hr
   have hi0n:i0<n:=by
    obtain ⟨_,o,ho,_⟩:=mem_ready.1 hi0
    have:=(Array.getElem?_eq_some_iff.1 ho).1
    simp at this;omega
   have hi0u:listed.getD i0 true=false:=by rw [← hll i0 true hi0n];exact (mem_ready.1 hi0).1
   have hlt:∀ i∈Region.ready .any l.toArray listed,i<n:=fun i hi=>by
    rcases Nat.lt_or_ge i n with h' | h'
    ·exact h'
    ·exact absurd hi (tail_waits hs hc (by rw [szl];exact hn) inv _ i0 rfl hi0n hi0u i h')
   rw [show f+1+(l.length - n)=(f+(l.length - n))+1 by omega]
   refine ⟨fun he=>?_,fun i hi=>?_⟩
   ·have:=(hready listed listed' i0 inv hsz hll hi0n).2 hi0
    rw [he] at this;cases this
   ·have hin:=hlt i hi
    have h1:=h.2 i ((hready listed listed' i inv hsz hll hin).1 hi)
    have hil:i<l.length:=by omega
    have hg:=(hb i l[i] hin (List.getElem?_eq_getElem hil)).1
    unfold qOp at h1
    unfold wpOp
    rw [htk i hin] at h1
    have e:l.toArray[i]? = some l[i]:=by simp [hil]
    rw [e] at h1 ⊢
    simp only at h1 ⊢
    rw [wanted_take hg] at h1
    have hnext:∀ a' w',C w'→wpAnyQ P .any (l.take n).toArray C Qa f (listed'.setIfInBounds i true) a'→wpAny P .any l.toArray Q' (f+(l.length - n)) (listed.setIfInBounds i true) a' w':=by
     intro a' w' hw' h'
     refine ih _ _ a' w' hw' (inv.set hi hin) (by simp [hsz]) (fun j b hj=>?_) h'
     by_cases eij:i=j
     ·subst eij
      simp [hsz,hin,inv.size,hil]
     ·rw [getD_set_ne b eij,getD_set_ne b eij,hll j b hj]
    by_cases hwt:Region.wanted l[i] (yielded l.toArray a.tmps)=true
    ·rw [if_pos hwt] at h1 ⊢
     exact .inl (Oper.wp_of_quiet hw hnext h1)
    ·rw [if_neg hwt] at h1 ⊢
     exact hnext _ _ hw h1
theorem wp_region_qt {id:Nat} {Q:Exit→Act→World→Prop} {a:Act} {w:World} {l:List Oper} (n:Nat) (hm:P.follows .mixedOrders=true) (hB:qtB l n=true) (hC:C { w with drawn:=w.drawn+1 })
 (h:wpQuiet P (l.take n).toArray C (fun a'=>∀ w',C w'→wpList P l.toArray Q (l.drop n) a' w') (l.take n) a):(Code.region id l.toArray true).wp P Q a w:=by
 unfold qtB at hB
 simp only [Bool.and_eq_true,decide_eq_true_eq] at hB
 obtain ⟨⟨⟨⟨⟨hlex,hn⟩,hs⟩,hc⟩,hb⟩,hq⟩:=hB
 simp only [Region.lexB,Bool.and_eq_true] at hlex
 have hb':∀ i o,i<n→l[i]? = some o→(∀ g,o.guard=some g→g.1<n)∧∀ e∈o.after,Region.binds .any e=true→e.on<i:=by
  intro i o hi ho
  have:=List.all_eq_true.1 hb i (List.mem_range.2 hi)
  rw [ho] at this
  simp only [Bool.and_eq_true] at this
  refine ⟨fun g hg=>?_,fun e he hbd=>?_⟩
  ·have h1:=this.1
   rw [hg] at h1
   simpa using h1
  ·have h1:=List.all_eq_true.1 this.2 e (by simpa using he)
   rw [hbd] at h1
   simpa using h1
 have hlen:(l.take n).length=n:=by simp;omega
 have H:=wpAnyQ_lex (P:=P) (C:=C) (md:=.any) hlex.1 (l.take n) 0 (Array.replicate (l.take n).toArray.size false) a (by simp) (by simpa using hlex.2) h
 refine wp_region_any hm ?_
 have inv0:HeadInv .any l.toArray n (Array.replicate l.toArray.size false) :=
  ⟨by simp,fun j oj _ hl=>(by rw [getD_replicate_false] at hl;cases hl),fun t _ ht=>getD_in (by simpa using ht) (getD_replicate_false _ _)⟩
 have:=qt_any (P:=P) (C:=C) (Q':=Q) (Qa:=fun a'=>∀ w',C w'→wpList P l.toArray Q (l.drop n) a' w') hn hs hc hb' hq (fun a w hw h=>h w hw) (l.take n).length (Array.replicate l.toArray.size false) (Array.replicate (l.take n).toArray.size false) a _ hC inv0 (by simp;omega)
  (fun i b hi=>by
   have h1:i<l.length:=by omega
   simp [hlen,hi,h1]) H
 rw [hlen,show n+(l.length - n)=l.toArray.size by simp;omega] at this
 exact this
end
theorem wp_region_laterT {B:Nat} {w0:World} {id:Nat} {Q:Exit→Act→World→Prop} {a:Act} {w:World} {l:List Oper} (n:Nat) (hm:Try.prog.follows .mixedOrders=true) (hB:qtB l n=true) (hw:Below B w0 w)
 (h:wpQuiet Try.prog (l.take n).toArray (fun w'=>∃ n:Later B w0,w'=n.w) (fun a'=>∀ w',(∃ n:Later B w0,w'=n.w)→wpList Try.prog l.toArray Q (l.drop n) a' w') (l.take n) a):(Code.region id l.toArray true).wp Try.prog Q a w:=wp_region_qt (C:=fun w'=>∃ n:Later B w0,w'=n.w) n hm hB ⟨⟨w.drew,below_drew1 hw⟩,rfl⟩ h
end Go.Proofs.Ytfobmfngbfbfdaa
namespace Go.Proofs.Ytfobmfngbfbfdaa
set_option linter.unusedSimpArgs false
set_option linter.unusedVariables false
open Go.RowKit
theorem absC {P:Program} {f:FuncId} {args:Array Value} {w0:World} {R:Ending→World→Prop} (F:World→Prop) (h:F w0) (k:∀ W,F W→Calls P f args W R):Calls P f args w0 R:=k _ h
theorem absR {P:Program} {c:Code} {Q:Exit→Act→World→Prop} {a:Act} {w0:World} (F:World→Prop) (h:F w0) (k:∀ W,F W→c.wp P Q a W):c.wp P Q a w0:=k _ h
theorem cset_off {w:World} {b o o':Nat} {v:Value} (h:o ≠ o'):(w.setCell ⟨b,o,none⟩ v).cell? ⟨b,o',none⟩=w.cell? ⟨b,o',none⟩:=World.cell?_setCell_other _ _ _ _ (by intro e;cases e;exact h rfl)
theorem absL {P:Program} {ops:Array Oper} {Q:Exit→Act→World→Prop} {l:List Oper} {a:Act} {w0:World} (F:World→Prop) (h:F w0) (k:∀ W,F W→wpList P ops Q l a W):wpList P ops Q l a w0:=k _ h
def Halt' (p:Prop):Prop:=p
theorem halt' {p:Prop} (h:Halt' p):p:=h
end Go.Proofs.Ytfobmfngbfbfdaa
