/- Lemmas for the proof of FnIteration, part 11 of 22: no condition of their own. -/
import Derived.Test.YtfobmfngbfbfdaaJ5
import Derived.Deep.DeepCutAuto
import Derived.Deep.CutBlock
import Derived.Test.YtfobmfngbfbfdaaJ1
import Derived.Test.YtfobmfngbfbfdaaJ2
namespace Go.Proofs.Ytfobmfngbfbfdaa
set_option linter.unusedSimpArgs false
set_option linter.unusedVariables false
open Go.RowKit
def GvRelS (w:World) (ar:Int) (n:Nat) (rows:List (List Int)) (e:Ending) (w':World):Prop:=∃ a c,e=.returned (trieV ar a n c)∧RowsS w.heap.size w'.heap.size w' a n c rows∧Below w.heap.size w w'
def pOneR (B n:Nat) (x:List Int):PropV:=fun v _ _ w'=>∃ g a' c' s t,v=.slice (some ⟨g,0,none⟩) 1 1∧w'.heap[g]? = some (.cells #[.slice a' n c'] 27 (0,0))∧B≤s∧t≤w'.heap.size∧HeadI w' s t∧intsQ s t w' a' n c' x
theorem pOneR_st (B n:Nat) (x:List Int):StableP (pOneR B n x) :=
 fun _ _ _ _ _ ⟨g,a',c',s,t,h1,h2,h3,h4,h5,h6⟩ hb=>⟨g,a',c',s,t,h1,by rw [hb.block g (Array.getElem?_eq_some_iff.1 h2).1];exact h2,h3,Nat.le_trans h4 hb.size,h5.keep (Keeps.of_below hb h4) (Nat.le_refl _) (Nat.le_refl _),intsQOK.keep h6 (Keeps.of_below hb h4)⟩
theorem stepU {Q:Exit→Act→World→Prop} {o:Oper} {a':Act} {w':World} {v:Value} (hr:(execOp a'.eval o).run Try.prog w'=.ok (.value v) w'):o.wp Try.prog a' w' (fun a'' w''=>a''=a'.put o.dst v∧w''=w') Q:=by
 unfold Oper.wp
 rw [hr]
 exact ⟨rfl,rfl⟩
theorem wpSt {Q:Exit→Act→World→Prop} {K:Act→World→Prop} {o:Oper} {a':Act} {w' w'':World} (hd:o.dst=none) (hr:(execOp a'.eval o).run Try.prog w'=.ok .skip w'') (h:K a' w''):o.wp Try.prog a' w' K Q:=by
 unfold Oper.wp
 rw [hr]
 have h1:Oper.upon Try.prog o a' K Q (.ok .skip w'')=K (a'.put o.dst undef) w'':=rfl
 rw [h1,hd]
 exact h
theorem stepM {Q:Exit→Act→World→Prop} {o:Oper} {a':Act} {w' w'':World} {v:Value} {M:Value→World→Prop} (hr:(execOp a'.eval o).run Try.prog w'=.ok (.value v) w'') (hM:M v w''):o.wp Try.prog a' w' (fun a'' w''=>∃ v,a''=a'.put o.dst v∧M v w'') Q:=by
 unfold Oper.wp
 rw [hr]
 exact ⟨v,rfl,hM⟩
set_option maxRecDepth 100000 in
set_option maxHeartbeats 12800000 in
theorem specL5 {fz:Bool} {lo hi:Nat} (ar:Int) (a:Option Addr) (n c:Nat) (rows:List (List Int)) (w:World) (hI:RowsA fz lo hi w a n c rows) (hh:hi≤w.heap.size) (hs:rowsSz rows≤1048576) (har:I64 ar) :
 Calls Try.prog 51 #[trieV ar a n c] w (GvRelS w ar n rows):=by
 have hl:=hI.len
 have hn:n≤1048576:=by unfold rowsSz at hs;omega
 have HL:=hid hl;have HS:=hid hs;clear hl hs
 go_enter Try.func51,Try.ntmps51
 go_wp2_with fail
 go_loopw [4] (fun i wr=>∃ (k:Nat) (oo:Option Addr) (om oc:Nat) (vs:List Value),i=.int .i64 k∧k≤n∧wr.cell? ⟨w.heap.size,0,none⟩=some (.int .i64 ar)∧wr.cell? ⟨w.heap.size,1,none⟩=some (.slice a n c)∧wr.cell? ⟨w.heap.size+1,0,none⟩=some (.int .i64 0)∧wr.cell? ⟨w.heap.size+1,1,none⟩=some (.slice none 0 0)∧wr.frozen? ⟨w.heap.size+1,0,none⟩=false∧wr.frozen? ⟨w.heap.size+1,1,none⟩=false∧wr.cell? ⟨w.heap.size+1+1,0,none⟩=some (.int .i64 ar)∧wr.cell? ⟨w.heap.size+1+1,1,none⟩=some (.slice oo om oc)∧wr.frozen? ⟨w.heap.size+1+1,1,none⟩=false∧Hid (OwnV 27 (w.heap.size+1+1+1) wr oo om oc vs∧SepV intsQ (w.heap.size+1+1+1) wr.heap.size wr vs (rows.take k))∧Hid (Below w.heap.size w wr)) (fun i _=>n - (intOf i).toNat)
 case atStart=>exact ⟨0,none,0,0,[],rfl,by omega,(by first | (go_simp;done) | (simp [World.cell?];done) | (simp [World.frozen?];done) | skip),(by first | (go_simp;done) | (simp [World.cell?];done) | (simp [World.frozen?];done) | skip),(by first | (go_simp;done) | (simp [World.cell?];done) | (simp [World.frozen?];done) | skip),(by first | (go_simp;done) | (simp [World.cell?];done) | (simp [World.frozen?];done) | skip),(by first | (go_simp;done) | (simp [World.cell?];done) | (simp [World.frozen?];done) | skip),(by first | (go_simp;done) | (simp [World.cell?];done) | (simp [World.frozen?];done) | skip),(by first | (go_simp;done) | (simp [World.cell?];done) | (simp [World.frozen?];done) | skip),(by first | (go_simp;done) | (simp [World.cell?];done) | (simp [World.frozen?];done) | skip),(by first | (go_simp;done) | (simp [World.cell?];done) | (simp [World.frozen?];done) | skip),hid ⟨ownV_nil _ _ _,SepV.nil _ _ _ _⟩,hid (by repeat (first | with_reducible assumption | with_reducible exact Below.refl _ _ | with_reducible refine below_drewN ?_ _ | with_reducible refine below_drew1 ?_ | with_reducible refine Below.al ?_ (by first | with_reducible exact Nat.le_refl _ | omega | (simp;done) | (simp;omega) | exact Nat.le_refl _) _ | with_reducible refine Below.setCell ?_ (by first | with_reducible exact Nat.le_refl _ | omega | (simp;done) | (simp;omega) | exact Nat.le_refl _) _ | assumption | exact Below.refl _ _ | refine below_drewN ?_ _ | refine below_drew1 ?_ | refine Below.al ?_ (by first | with_reducible exact Nat.le_refl _ | omega | (simp;done) | (simp;omega) | exact Nat.le_refl _) _ | refine Below.setCell ?_ (by first | with_reducible exact Nat.le_refl _ | omega | (simp;done) | (simp;omega) | exact Nat.le_refl _) _))⟩
 case round =>
  obtain ⟨k,oo,om,oc,vs,rfl,hk,b0,b1,r0,r1,f0,f1,x0,x1,y1,HO,HB⟩:=hrel
  have hom:om=k:=by have h1:=HO.out.1.len;have h2:=HO.out.2.1;have h3:=HL.out;rw [List.length_take] at h2;omega
  have homb:om≤1048576:=by omega
  have HOM:=hid hom;clear hom
  have hzr:=HB.out.size
  have hz2:w.heap.size+1+1<wr.heap.size:=World.block_lt_of_cell? _ _ x0
  have hz0:w.heap.size<wr.heap.size:=by omega
  have hz1:w.heap.size+1<wr.heap.size:=by omega
  by_cases hlt:k<n
  ·have hIr:RowsA fz lo hi wr a n c rows:=SlA.be intsOK hI HB.out hh
   obtain ⟨b,off,rfl⟩:=hIr.some (by omega)
   obtain ⟨_,hbhi,ra,rn,rc,d0,hr,_⟩:=hIr.at hlt
   have hbb:b<wr.heap.size:=by omega
   have hrl:=hr.len
   have hrn:rn≤1048576:=by have:=rowsSz_row HS.out k;omega
   have HI:=hid (And.intro hIr hr);clear hIr hr hrl
   go_wp2_with fail
   refine wp_region_mid (m:=10) (z:=12) (U:=[11]) (N:=28) (by kernel_rfl) (by kernel_rfl) (by rfl)
    (vp [pEq (.pointer (some ⟨w.heap.size+1+1,1,none⟩)),pEq (.slice oo om oc),pEmp 3,pEq (.pointer (some ⟨w.heap.size,1,none⟩)),pEq (.slice (some ⟨b,off,none⟩) n c),pEq (.int .i64 k),pEq (.pointer (some ⟨b,off+k,none⟩)),pEq (.slice ra rn rc),pDat intsQ rn (rx rows k),pOneR wr.heap.size rn (rx rows k)])
    (fun _=>.pointer (some ⟨w.heap.size+1+1,1,none⟩))
    (fun v w5=>∃ (a1:Option Addr) (c1:Nat) (vs1:List Value),v=.slice a1 (om+1) c1∧w5.cell? ⟨w.heap.size,0,none⟩=some (.int .i64 ar)∧w5.cell? ⟨w.heap.size,1,none⟩=some (.slice (some ⟨b,off,none⟩) n c)∧w5.cell? ⟨w.heap.size+1,0,none⟩=some (.int .i64 0)∧w5.cell? ⟨w.heap.size+1,1,none⟩=some (.slice none 0 0)∧w5.frozen? ⟨w.heap.size+1,0,none⟩=false∧w5.frozen? ⟨w.heap.size+1,1,none⟩=false∧w5.cell? ⟨w.heap.size+1+1,0,none⟩=some (.int .i64 ar)∧w5.cell? ⟨w.heap.size+1+1,1,none⟩=some (.slice oo om oc)∧w5.frozen? ⟨w.heap.size+1+1,1,none⟩=false∧Hid (OwnV 27 (w.heap.size+1+1+1) w5 a1 (om+1) c1 vs1∧SepV intsQ (w.heap.size+1+1+1) w5.heap.size w5 vs1 (rows.take (k+1)))∧Hid (Below w.heap.size w w5))
    (stab_vp (by
     intro p hp
     simp only [List.mem_cons,List.not_mem_nil,or_false] at hp
     rcases hp with rfl | rfl | rfl | rfl | rfl | rfl | rfl | rfl | rfl | rfl <;> first | exact pEq_st _ | exact pEmp_st _ | exact pDat_st intsQOK _ _ | exact pOneR_st _ _ _)) ?_ ?_ ?_ ?_
   ·intro i o hi ho a' w' hB hF hdeps
    have hi2:¬ i=10∧¬ i=12∧¬ i=11:=by have:=hi.2;simpa using this
    have hi1:i<13:=hi.1
    rcases (by omega:i=0∨i=1∨i=2∨i=3∨i=4∨i=5∨i=6∨i=7∨i=8∨i=9) with rfl | rfl | rfl | rfl | rfl | rfl | rfl | rfl | rfl | rfl
    ·obtain rfl:=Option.some.inj ho
     have e1:=evTmp (hF.ev 3 (by kernel_rfl) rfl)
     refine stepG (v:=.pointer (some ⟨w.heap.size+1+1,1,none⟩)) (s:=w'.heap.size) (t:=w'.heap.size) (w'':=w') ?_ ?_ ?_ ?_ ?_
     ·simp [execOp,e1,go_sem]
     ·exact Below.refl _ _
     ·exact Nat.le_refl _
     ·exact Nat.le_refl _
     ·exact rfl
    ·obtain rfl:=Option.some.inj ho
     obtain ⟨_,_,_,_,e'⟩:=hdeps ⟨0,.data⟩ (by simp) (by rfl) _ 15 rfl rfl
     have e:=evTmp (show a'.eval (.tmp 15)=.pointer (some ⟨w.heap.size+1+1,1,none⟩) from e')
     have hc:w'.cell? ⟨w.heap.size+1+1,1,none⟩=some (.slice oo om oc):=by rw [(bcell hB).1 _ _ (by omega)];exact x1
     refine stepG (v:=.slice oo om oc) (s:=w'.heap.size) (t:=w'.heap.size) (w'':=w') ?_ ?_ ?_ ?_ ?_
     ·simp [execOp,e,go_sem,hc]
     ·exact Below.refl _ _
     ·exact Nat.le_refl _
     ·exact Nat.le_refl _
     ·exact rfl
    ·obtain rfl:=Option.some.inj ho
     refine stepG (v:=.slice (some ⟨w'.heap.size,0,none⟩) 0 0) (s:=w'.heap.size) (t:=w'.heap.size) (w'':=w'.alloc (.cells #[] 3)) ?_ ?_ ?_ ?_ ?_
     ·simp [execOp,go_sem]
     ·exact belA
     ·exact Nat.le_refl _
     ·simp
     ·exact ⟨w'.heap.size,rfl,heap_alloc_new _ _⟩
    ·obtain rfl:=Option.some.inj ho
     have e1:=evTmp (hF.ev 1 (by kernel_rfl) rfl)
     refine stepG (v:=.pointer (some ⟨w.heap.size,1,none⟩)) (s:=w'.heap.size) (t:=w'.heap.size) (w'':=w') ?_ ?_ ?_ ?_ ?_
     ·simp [execOp,e1,go_sem]
     ·exact Below.refl _ _
     ·exact Nat.le_refl _
     ·exact Nat.le_refl _
     ·exact rfl
    ·obtain rfl:=Option.some.inj ho
     obtain ⟨_,_,_,_,e'⟩:=hdeps ⟨3,.data⟩ (by simp) (by rfl) _ 18 rfl rfl
     have e:=evTmp (show a'.eval (.tmp 18)=.pointer (some ⟨w.heap.size,1,none⟩) from e')
     have hc:w'.cell? ⟨w.heap.size,1,none⟩=some (.slice (some ⟨b,off,none⟩) n c):=by rw [(bcell hB).1 _ _ (by omega)];exact b1
     refine stepG (v:=.slice (some ⟨b,off,none⟩) n c) (s:=w'.heap.size) (t:=w'.heap.size) (w'':=w') ?_ ?_ ?_ ?_ ?_
     ·simp [execOp,e,go_sem,hc]
     ·exact Below.refl _ _
     ·exact Nat.le_refl _
     ·exact Nat.le_refl _
     ·exact rfl
    ·obtain rfl:=Option.some.inj ho
     have e1:=evTmp (hF.ev 4 (by kernel_rfl) rfl)
     refine stepG (v:=.int .i64 k) (s:=w'.heap.size) (t:=w'.heap.size) (w'':=w') ?_ ?_ ?_ ?_ ?_
     ·simp [execOp,e1,go_sem]
     ·exact Below.refl _ _
     ·exact Nat.le_refl _
     ·exact Nat.le_refl _
     ·exact rfl
    ·obtain rfl:=Option.some.inj ho
     obtain ⟨_,_,_,_,e'⟩:=hdeps ⟨4,.data⟩ (by simp) (by rfl) _ 19 rfl rfl
     have e:=evTmp (show a'.eval (.tmp 19)=.slice (some ⟨b,off,none⟩) n c from e')
     obtain ⟨_,_,_,_,f'⟩:=hdeps ⟨5,.data⟩ (by simp) (by rfl) _ 20 rfl rfl
     have f:=evTmp (show a'.eval (.tmp 20)=.int .i64 k from f')
     refine stepG (v:=.pointer (some ⟨b,off+k,none⟩)) (s:=w'.heap.size) (t:=w'.heap.size) (w'':=w') ?_ ?_ ?_ ?_ ?_
     ·simp [execOp,e,f,go_sem,hlt]
     ·exact Below.refl _ _
     ·exact Nat.le_refl _
     ·exact Nat.le_refl _
     ·exact rfl
    ·obtain rfl:=Option.some.inj ho
     obtain ⟨_,_,_,_,e'⟩:=hdeps ⟨6,.data⟩ (by simp) (by rfl) _ 21 rfl rfl
     have e:=evTmp (show a'.eval (.tmp 21)=.pointer (some ⟨b,off+k,none⟩) from e')
     have hc:w'.cell? ⟨b,off+k,none⟩=some (.slice ra rn rc):=by rw [(bcell hB).1 _ _ (by omega)];exact d0
     refine stepG (v:=.slice ra rn rc) (s:=w'.heap.size) (t:=w'.heap.size) (w'':=w') ?_ ?_ ?_ ?_ ?_
     ·simp [execOp,e,go_sem,hc]
     ·exact Below.refl _ _
     ·exact Nat.le_refl _
     ·exact Nat.le_refl _
     ·exact rfl
    ·obtain rfl:=Option.some.inj ho
     obtain ⟨_,_,_,_,g,e1,hg⟩:=hdeps ⟨2,.data⟩ (by simp) (by rfl) _ 17 rfl rfl
     obtain ⟨_,_,_,_,e2'⟩:=hdeps ⟨7,.data⟩ (by simp) (by rfl) _ 22 rfl rfl
     have e2:a'.eval (.tmp 22)=.slice ra rn rc:=e2'
     have e1':a'.eval (.tmp 17)=.slice (some ⟨g,0,none⟩) 0 0:=e1
     obtain ⟨a1,c1,w3,s,t,hr,hb3,k1,k2,k3,k4⟩:=run_append_ints 27 g hg ra rn rc (rx rows k) (HI.out.2.be hB (by omega)) (by omega)
     refine stepG (v:=.slice a1 rn c1) (s:=s) (t:=t) (w'':=w3) ?_ hb3 k1 k2 ⟨k2,k4,a1,c1,rfl,k3.1⟩
     simp [execOp,resolve,invoke,builtin,e1',e2,hr,Result.andThen]
    ·obtain rfl:=Option.some.inj ho
     obtain ⟨s,t,k1,k2,k2',k4,a1,c1,e1,k3⟩:=hdeps ⟨8,.data⟩ (by simp) (by rfl) _ 23 rfl rfl
     have e1':=evTmp (show a'.eval (.tmp 23)=.slice a1 rn c1 from e1)
     refine stepG (v:=.slice (some ⟨w'.heap.size,0,none⟩) 1 1) (s:=w'.heap.size) (t:=w'.heap.size) (w'':=w'.alloc (.cells #[.slice a1 rn c1] 27)) ?_ ?_ ?_ ?_ ?_
     ·simp [execOp,e1',Act.eval,go_sem]
     ·exact belA
     ·exact Nat.le_refl _
     ·simp
     ·exact ⟨w'.heap.size,a1,c1,s,t,rfl,heap_alloc_new _ _,k1,by simp;omega,k4.keep (Keeps.al (Keeps.refl s t _) k2 _) (Nat.le_refl _) (Nat.le_refl _),intsQOK.keep k3 (Keeps.al (Keeps.refl s t _) k2 _)⟩
   ·intro i o hi ho a' w' hF
    obtain rfl:i=11:=by simpa using hi
    obtain rfl:=Option.some.inj ho
    have e1:=evTmp (hF.ev 3 (by kernel_rfl) rfl)
    exact stepU (by simp [execOp,e1,go_sem])
   ·intro o a' w3 ho hB hF hV
    obtain rfl:=Option.some.inj ho
    obtain ⟨_,_,_,_,e16⟩:=hV 1 _ 16 (by decide) rfl rfl
    obtain ⟨_,_,_,_,g,a2,c2,s,t,e24,hg,k1b,k2,k4,k3⟩:=hV 9 _ 24 (by decide) rfl rfl
    have E16:a'.eval (.tmp 16)=.slice oo om oc:=e16
    have E24:a'.eval (.tmp 24)=.slice (some ⟨g,0,none⟩) 1 1:=e24
    have hz3:wr.heap.size≤w3.heap.size:=hB.size
    have b0w3:w3.cell? ⟨w.heap.size,0,none⟩=some (.int .i64 ar):=by rw [(bcell hB).1 _ _ (by omega)];exact b0
    have b1w3:w3.cell? ⟨w.heap.size,1,none⟩=some (.slice (some ⟨b,off,none⟩) n c):=by rw [(bcell hB).1 _ _ (by omega)];exact b1
    have r0w3:w3.cell? ⟨w.heap.size+1,0,none⟩=some (.int .i64 0):=by rw [(bcell hB).1 _ _ (by omega)];exact r0
    have r1w3:w3.cell? ⟨w.heap.size+1,1,none⟩=some (.slice none 0 0):=by rw [(bcell hB).1 _ _ (by omega)];exact r1
    have f0w3:w3.frozen? ⟨w.heap.size+1,0,none⟩=false:=by rw [(bcell hB).2 _ _ (by omega)];exact f0
    have f1w3:w3.frozen? ⟨w.heap.size+1,1,none⟩=false:=by rw [(bcell hB).2 _ _ (by omega)];exact f1
    have x0w3:w3.cell? ⟨w.heap.size+1+1,0,none⟩=some (.int .i64 ar):=by rw [(bcell hB).1 _ _ (by omega)];exact x0
    have x1w3:w3.cell? ⟨w.heap.size+1+1,1,none⟩=some (.slice oo om oc):=by rw [(bcell hB).1 _ _ (by omega)];exact x1
    have y1w3:w3.frozen? ⟨w.heap.size+1+1,1,none⟩=false:=by rw [(bcell hB).2 _ _ (by omega)];exact y1
    have HOV:=hid (And.intro (HO.out.1.keep (Keeps.of_below hB (Nat.le_refl _))) (SepV.keep intsQOK HO.out.2 (Keeps.of_below hB (Nat.le_refl _))))
    have HB3:=hid (HB.out.trans (hB.mono (by omega)))
    have hgl:=(Array.getElem?_eq_some_iff.1 hg).1
    obtain ⟨a1,c1',w5,hrun,ho2,hg2⟩:=run_append_vals elemRowI 24 (w.heap.size+1+1+1) oo om oc vs HOV.out.1 _ 1 1 [.slice a2 rn c2] (vals_one _ g 27 _ rfl 0 _ (Nat.zero_le _) hgl hg) (by omega) (by omega)
    have hb5:Below (w.heap.size+1+1+1) w3 w5:=(Below.refl _ _).grown hg2 (by omega) (fun k hk=>(HOV.out.1.1.lt k hk).1)
    have b0w5:w5.cell? ⟨w.heap.size,0,none⟩=some (.int .i64 ar):=by rw [hb5.cell (p:=⟨w.heap.size,0,none⟩) (by dsimp only;omega)];exact b0w3
    have b1w5:w5.cell? ⟨w.heap.size,1,none⟩=some (.slice (some ⟨b,off,none⟩) n c):=by rw [hb5.cell (p:=⟨w.heap.size,1,none⟩) (by dsimp only;omega)];exact b1w3
    have r0w5:w5.cell? ⟨w.heap.size+1,0,none⟩=some (.int .i64 0):=by rw [hb5.cell (p:=⟨w.heap.size+1,0,none⟩) (by dsimp only;omega)];exact r0w3
    have r1w5:w5.cell? ⟨w.heap.size+1,1,none⟩=some (.slice none 0 0):=by rw [hb5.cell (p:=⟨w.heap.size+1,1,none⟩) (by dsimp only;omega)];exact r1w3
    have f0w5:w5.frozen? ⟨w.heap.size+1,0,none⟩=false:=by rw [hb5.frozen (p:=⟨w.heap.size+1,0,none⟩) (by dsimp only;omega)];exact f0w3
    have f1w5:w5.frozen? ⟨w.heap.size+1,1,none⟩=false:=by rw [hb5.frozen (p:=⟨w.heap.size+1,1,none⟩) (by dsimp only;omega)];exact f1w3
    have x0w5:w5.cell? ⟨w.heap.size+1+1,0,none⟩=some (.int .i64 ar):=by rw [hb5.cell (p:=⟨w.heap.size+1+1,0,none⟩) (by dsimp only;omega)];exact x0w3
    have x1w5:w5.cell? ⟨w.heap.size+1+1,1,none⟩=some (.slice oo om oc):=by rw [hb5.cell (p:=⟨w.heap.size+1+1,1,none⟩) (by dsimp only;omega)];exact x1w3
    have y1w5:w5.frozen? ⟨w.heap.size+1+1,1,none⟩=false:=by rw [hb5.frozen (p:=⟨w.heap.size+1+1,1,none⟩) (by dsimp only;omega)];exact y1w3
    have hz5:=hg2.size
    have hkk:=grown_laterI HO.out.1 hg2 (s:=s) (t:=t) k1b k2
    have hrow:intsQ s t w5 a2 rn c2 (rx rows k):=intsQOK.keep k3 hkk
    have hd5:HeadI w5 s t:=k4.keep hkk (Nat.le_refl _) (Nat.le_refl _)
    have hsv5:SepV intsQ (w.heap.size+1+1+1) wr.heap.size w5 vs (rows.take k):=SepV.grown intsQOK HOV.out.2 HOV.out.1 hg2 hz3
    have HS5:=hsv5.snoc (hi':=w5.heap.size) hrow hd5 (by omega) k1b (by omega) (by omega)
    rw [← take_snocR rows (by rw [HL.out];exact hlt)] at HS5
    exact stepM (v:=.slice a1 (om+1) c1') (w'':=w5) (by simp [execOp,resolve,invoke,builtin,E16,E24,hrun,Result.andThen]) ⟨a1,c1',_,rfl,b0w5,b1w5,r0w5,r1w5,f0w5,f1w5,x0w5,x1w5,y1w5,hid ⟨ho2,HS5⟩,hid (HB3.out.trans (hb5.mono (by omega)))⟩
   ·intro o om' dm a' w5 v ho hom' hdm hF hv hU hM
    obtain rfl:=Option.some.inj ho
    obtain rfl:=Option.some.inj hom'
    obtain rfl:=Option.some.inj hdm
    obtain ⟨a1,c1,vs1,rfl,b0w5,b1w5,r0w5,r1w5,f0w5,f1w5,x0w5,x1w5,y1w5,HO5,HB5⟩:=hM
    obtain ⟨⟨l⟩,df⟩:=a'
    obtain rfl:df=[]:=hF.1
    have hlen:l.length=28:=hF.2.1
    match l,hlen with
    | [u0,u1,u2,u3,u4,u5,u6,u7,u8,u9,u10,u11,u12,u13,u14,u15,u16,u17,u18,u19,u20,u21,u22,u23,u24,u25,u26,u27],_ =>
     have E0:u0=trieV ar (some ⟨b,off,none⟩) n c:=hF.at 0 (by kernel_rfl)
     have E1:u1=.pointer (some ⟨w.heap.size,0,none⟩):=hF.at 1 (by kernel_rfl)
     have E2:u2=.pointer (some ⟨w.heap.size+1,0,none⟩):=hF.at 2 (by kernel_rfl)
     have E3:u3=.pointer (some ⟨w.heap.size+1+1,0,none⟩):=hF.at 3 (by kernel_rfl)
     have E4:u4=.int .i64 k:=hF.at 4 (by kernel_rfl)
     have E5:u5=.pointer (some ⟨w.heap.size,0,none⟩):=hF.at 5 (by kernel_rfl)
     have E6:u6=.int .i64 ar:=hF.at 6 (by kernel_rfl)
     have E7:u7=.agg #[.int .i64 ar,.slice none 0 0]:=hF.at 7 (by kernel_rfl)
     have E27:u27=undef:=hF.at 27 (by kernel_rfl)
     have e26:u26=.pointer (some ⟨w.heap.size+1+1,1,none⟩):=hU 11 _ 26 (by simp) rfl rfl
     replace hv:u25=_:=hv
     subst hv;subst e26;subst E0;subst E1;subst E2;subst E3;subst E4;subst E5;subst E6;subst E7;subst E27
     have hlt5:w.heap.size+1+1<w5.heap.size:=World.block_lt_of_cell? _ _ x0w5
     clear hU hF d0 b0 b1 r0 r1 f0 f1 x0 x1 y1
     refine wpSt (w'':=w5.setCell ⟨w.heap.size+1+1,1,none⟩ (.slice a1 (om+1) c1)) rfl (by simp [execOp,Act.eval,go_sem,x1w5,y1w5]) ?_
     go_wp2_with fail
     go_roundw
     case rel=>exact ⟨k+1,a1,om+1,_,vs1,by go_num,by omega,(by first | assumption | (rw [fset_any];assumption) | (rw [cset_other (by intro h;simp only [Addr.mk.injEq] at h;omega)];assumption)),(by first | assumption | (rw [fset_any];assumption) | (rw [cset_other (by intro h;simp only [Addr.mk.injEq] at h;omega)];assumption)),(by first | assumption | (rw [fset_any];assumption) | (rw [cset_other (by intro h;simp only [Addr.mk.injEq] at h;omega)];assumption)),(by first | assumption | (rw [fset_any];assumption) | (rw [cset_other (by intro h;simp only [Addr.mk.injEq] at h;omega)];assumption)),(by first | assumption | (rw [fset_any];assumption) | (rw [cset_other (by intro h;simp only [Addr.mk.injEq] at h;omega)];assumption)),(by first | assumption | (rw [fset_any];assumption) | (rw [cset_other (by intro h;simp only [Addr.mk.injEq] at h;omega)];assumption)),(by first | assumption | (rw [fset_any];assumption) | (rw [cset_other (by intro h;simp only [Addr.mk.injEq] at h;omega)];assumption)),(cset_same x1w5),(by first | assumption | (rw [fset_any];assumption) | (rw [cset_other (by intro h;simp only [Addr.mk.injEq] at h;omega)];assumption)),hid ⟨HO5.out.1.keep (Keeps.sc (Keeps.refl _ _ _) (.inl (by omega)) _),by rw [sz_set];exact SepV.keep intsQOK HO5.out.2 (Keeps.sc (Keeps.refl _ _ _) (.inl (by omega)) _)⟩,hid (HB5.out.setCell (by simp;omega) _)⟩
     case measure=>simp [intOf];omega
  ·obtain rfl:n=k:=by omega
   obtain rfl:om=n:=HOM.out
   go_wp2_with fail
   refine bodyPost_ret (v:=trieV ar oo om oc) (by simp [results,Try.results51,go_sem,r0,r1]) rfl ⟨_,_,rfl,?_,?_⟩
   ·have h1:=SepA.own HO.out.1 (by have h:=HO.out.2;rwa [List.take_of_length_le (by rw [HL.out];exact Nat.le_refl _)] at h)
    exact SepA.wide (SepA.keep intsQOK h1 (Keeps.sc (Keeps.sc (Keeps.refl _ _ _) (.inl (by omega)) _) (.inl (by omega)) _)) (by omega) (by simp only [sz_set];exact Nat.le_refl _)
   ·have hq:=HB.out;exact (by repeat (first | with_reducible assumption | with_reducible exact Below.refl _ _ | with_reducible refine below_drewN ?_ _ | with_reducible refine below_drew1 ?_ | with_reducible refine Below.al ?_ (by first | with_reducible exact Nat.le_refl _ | omega | (simp;done) | (simp;omega) | exact Nat.le_refl _) _ | with_reducible refine Below.setCell ?_ (by first | with_reducible exact Nat.le_refl _ | omega | (simp;done) | (simp;omega) | exact Nat.le_refl _) _ | assumption | exact Below.refl _ _ | refine below_drewN ?_ _ | refine below_drew1 ?_ | refine Below.al ?_ (by first | with_reducible exact Nat.le_refl _ | omega | (simp;done) | (simp;omega) | exact Nat.le_refl _) _ | refine Below.setCell ?_ (by first | with_reducible exact Nat.le_refl _ | omega | (simp;done) | (simp;omega) | exact Nat.le_refl _) _))
end Go.Proofs.Ytfobmfngbfbfdaa
namespace Go.Proofs.Ytfobmfngbfbfdaa
set_option linter.unusedSimpArgs false
set_option linter.unusedVariables false
open Go.RowKit
set_option maxRecDepth 100000 in
set_option maxHeartbeats 12800000 in
theorem specCopyItX {fz:Bool} {lo hi:Nat} (ar:Int) (a:Option Addr) (n c:Nat) (rows:List (List Int)) (la:Option Addr) (ln lc:Nat) (lw:List Int) (ga:Option Addr) (gn gc:Nat) (gh:List Int) (pa:Option Addr) (pn pc:Nat) (ps:List Int) (w:World) (hI:IterA fz lo hi w ar a n c rows la ln lc lw ga gn gc gh pa pn pc ps) (hh:hi≤w.heap.size) (hs:szIter rows lw gh ps≤1048576) :
 Calls Try.prog 29 #[iterV ar a n c la ln lc ga gn gc pa pn pc] w (GvIterX w ar rows lw gh ps):=by
 have hl1:=hI.2.1.len;have hl2:=hI.2.2.1.len;have hl3:=hI.2.2.2.len
 have hsz:rowsSz rows≤1048576∧ln≤1048576∧gn≤1048576∧pn≤1048576:=by unfold szIter at hs;omega
 clear hl1 hl2 hl3 hs
 obtain ⟨W,hW⟩:∃ W,W=(w.alloc (.cells #[.int .i64 ar,.slice a n c,.slice la ln lc,.slice ga gn gc,.slice pa pn pc] 29)).alloc (.cells #[.int .i64 0,.slice none 0 0,.slice none 0 0,.slice none 0 0,.slice none 0 0] 29):=⟨_,rfl⟩
 have hBW:Below w.heap.size w W:=by rw [hW];exact belA
 have hz:W.heap.size=w.heap.size+2:=by rw [hW];simp
 have c0:W.cell? ⟨w.heap.size,0,none⟩=some (.int .i64 ar):=by rw [hW];first | (go_simp;done) | (simp [World.cell?];done)
 have c1:W.cell? ⟨w.heap.size,1,none⟩=some (.slice a n c):=by rw [hW];first | (go_simp;done) | (simp [World.cell?];done)
 have c2:W.cell? ⟨w.heap.size,2,none⟩=some (.slice la ln lc):=by rw [hW];first | (go_simp;done) | (simp [World.cell?];done)
 have c3:W.cell? ⟨w.heap.size,3,none⟩=some (.slice ga gn gc):=by rw [hW];first | (go_simp;done) | (simp [World.cell?];done)
 have c4:W.cell? ⟨w.heap.size,4,none⟩=some (.slice pa pn pc):=by rw [hW];first | (go_simp;done) | (simp [World.cell?];done)
 have q0:W.cell? ⟨w.heap.size+1,0,none⟩=some (.int .i64 0):=by rw [hW];first | (go_simp;done) | (simp [World.cell?];done)
 have f0:W.frozen? ⟨w.heap.size+1,0,none⟩=false:=by rw [hW];first | (go_simp;done) | (simp [World.frozen?];done)
 have q1:W.cell? ⟨w.heap.size+1,1,none⟩=some (.slice none 0 0):=by rw [hW];first | (go_simp;done) | (simp [World.cell?];done)
 have f1:W.frozen? ⟨w.heap.size+1,1,none⟩=false:=by rw [hW];first | (go_simp;done) | (simp [World.frozen?];done)
 have q2:W.cell? ⟨w.heap.size+1,2,none⟩=some (.slice none 0 0):=by rw [hW];first | (go_simp;done) | (simp [World.cell?];done)
 have f2:W.frozen? ⟨w.heap.size+1,2,none⟩=false:=by rw [hW];first | (go_simp;done) | (simp [World.frozen?];done)
 have q3:W.cell? ⟨w.heap.size+1,3,none⟩=some (.slice none 0 0):=by rw [hW];first | (go_simp;done) | (simp [World.cell?];done)
 have f3:W.frozen? ⟨w.heap.size+1,3,none⟩=false:=by rw [hW];first | (go_simp;done) | (simp [World.frozen?];done)
 have q4:W.cell? ⟨w.heap.size+1,4,none⟩=some (.slice none 0 0):=by rw [hW];first | (go_simp;done) | (simp [World.cell?];done)
 have f4:W.frozen? ⟨w.heap.size+1,4,none⟩=false:=by rw [hW];first | (go_simp;done) | (simp [World.frozen?];done)
 have HIW:=hid (beIter hI hBW hh);have HAR:=hid hI.1.1;clear hI
 have hb0:w.heap.size<W.heap.size:=by omega
 have hb1:w.heap.size+1<W.heap.size:=by omega
 have hhW:hi≤W.heap.size:=by omega
 have HBW:=hid hBW;have HW:=hid hW;have HZ:=hid hz;clear hW hBW hz
 go_enter Try.func29,Try.ntmps29
 go_upto_region 1 with fail
 rw [← HW.out]
 go_wp2_with fail
 refine (specAsRel ar a n c _).mono ?_
 rintro e w1 ⟨rfl,hb1w⟩
 have hz1:=hb1w.size
 have HB1:=hid hb1w;clear hb1w
 go_wp2_with fail
 refine (specL5 ar a n c rows _ (SlA.be intsOK HIW.out.1.2 HB1.out hhW) (by omega) hsz.1 HAR.out).mono ?_
 rintro e w2 ⟨ra,rc,rfl,hr2,hb2w⟩
 have hz2:=hb2w.size
 obtain ⟨X,hX⟩:∃ X,X=w2.alloc (.cells #[.int .i64 ar,.slice ra n rc] 49):=⟨_,rfl⟩
 have hBX:Below w2.heap.size w2 X:=by rw [hX];exact belA
 have hzX:X.heap.size=w2.heap.size+1:=by rw [hX];simp
 have hbx:w2.heap.size<X.heap.size:=by omega
 have x0:X.cell? ⟨w2.heap.size,0,none⟩=some (.int .i64 ar):=by rw [hX];simp
 have x1:X.cell? ⟨w2.heap.size,1,none⟩=some (.slice ra n rc):=by rw [hX];simp
 have hWX:Below W.heap.size W X:=HB1.out.trans ((hb2w.mono hz1).trans (hBX.mono (by omega)))
 have HRX:=hid (SepA.keep intsQOK hr2 (Keeps.of_below hBX (Nat.le_refl _)))
 have cX0:X.cell? ⟨w.heap.size,0,none⟩=some (.int .i64 ar):=by rw [(bcell hWX).1 _ _ hb0];exact c0
 have cX1:X.cell? ⟨w.heap.size,1,none⟩=some (.slice a n c):=by rw [(bcell hWX).1 _ _ hb0];exact c1
 have cX2:X.cell? ⟨w.heap.size,2,none⟩=some (.slice la ln lc):=by rw [(bcell hWX).1 _ _ hb0];exact c2
 have cX3:X.cell? ⟨w.heap.size,3,none⟩=some (.slice ga gn gc):=by rw [(bcell hWX).1 _ _ hb0];exact c3
 have cX4:X.cell? ⟨w.heap.size,4,none⟩=some (.slice pa pn pc):=by rw [(bcell hWX).1 _ _ hb0];exact c4
 have qX0:X.cell? ⟨w.heap.size+1,0,none⟩=some (.int .i64 0):=by rw [(bcell hWX).1 _ _ hb1];exact q0
 have fX0:X.frozen? ⟨w.heap.size+1,0,none⟩=false:=by rw [(bcell hWX).2 _ _ hb1];exact f0
 have qX1:X.cell? ⟨w.heap.size+1,1,none⟩=some (.slice none 0 0):=by rw [(bcell hWX).1 _ _ hb1];exact q1
 have fX1:X.frozen? ⟨w.heap.size+1,1,none⟩=false:=by rw [(bcell hWX).2 _ _ hb1];exact f1
 have qX2:X.cell? ⟨w.heap.size+1,2,none⟩=some (.slice none 0 0):=by rw [(bcell hWX).1 _ _ hb1];exact q2
 have fX2:X.frozen? ⟨w.heap.size+1,2,none⟩=false:=by rw [(bcell hWX).2 _ _ hb1];exact f2
 have qX3:X.cell? ⟨w.heap.size+1,3,none⟩=some (.slice none 0 0):=by rw [(bcell hWX).1 _ _ hb1];exact q3
 have fX3:X.frozen? ⟨w.heap.size+1,3,none⟩=false:=by rw [(bcell hWX).2 _ _ hb1];exact f3
 have qX4:X.cell? ⟨w.heap.size+1,4,none⟩=some (.slice none 0 0):=by rw [(bcell hWX).1 _ _ hb1];exact q4
 have fX4:X.frozen? ⟨w.heap.size+1,4,none⟩=false:=by rw [(bcell hWX).2 _ _ hb1];exact f4
 have HIX:=hid (beIter HIW.out hWX hhW)
 have hX0:w.heap.size<X.heap.size:=by omega
 have hX1:w.heap.size+1<X.heap.size:=by omega
 have hhX:hi≤X.heap.size:=by omega
 have HWX:=hid hWX;have HX:=hid hX;clear hX hBX hWX hr2 hb2w c0 q0 f0 c1 q1 f1 c2 q2 f2 c3 q3 f3 c4 q4 f4
 go_upto_region 2 with fail
 rw [← HX.out]
 refine wp_region_grow (n:=17) (N:=26) (by kernel_rfl) (by kernel_rfl) (by rfl)
  (vp [pEq (.pointer (some ⟨w2.heap.size,0,none⟩)),pEq (.int .i64 ar),pEq (.pointer (some ⟨w2.heap.size,1,none⟩)),pEq (.slice ra n rc),pEq (.agg #[.int .i64 ar,.slice ra n rc]),pEmp 3,pEq (.pointer (some ⟨w.heap.size,2,none⟩)),pEq (.slice la ln lc),pDat intsX ln lw,pEmp 3,pEq (.pointer (some ⟨w.heap.size,3,none⟩)),pEq (.slice ga gn gc),pDat intsX gn gh,pEmp 3,pEq (.pointer (some ⟨w.heap.size,4,none⟩)),pEq (.slice pa pn pc),pDat intsX pn ps])
  (stab_vp (by
   intro p hp
   simp only [List.mem_cons,List.not_mem_nil,or_false] at hp
   rcases hp with rfl | rfl | rfl | rfl | rfl | rfl | rfl | rfl | rfl | rfl | rfl | rfl | rfl | rfl | rfl | rfl | rfl <;> first | exact pEq_st _ | exact pEmp_st _ | exact pDat_st intsXOK _ _)) ?_ ?_
 ·intro i o hi ho a' w' hB hF hdeps
  rcases (by omega:i=0∨i=1∨i=2∨i=3∨i=4∨i=5∨i=6∨i=7∨i=8∨i=9∨i=10∨i=11∨i=12∨i=13∨i=14∨i=15∨i=16) with rfl | rfl | rfl | rfl | rfl | rfl | rfl | rfl | rfl | rfl | rfl | rfl | rfl | rfl | rfl | rfl | rfl
  ·obtain rfl:=Option.some.inj ho
   have e1:=evTmp (hF.ev 3 (by kernel_rfl) rfl)
   refine stepG (v:=.pointer (some ⟨w2.heap.size,0,none⟩)) (s:=w'.heap.size) (t:=w'.heap.size) (w'':=w') ?_ ?_ ?_ ?_ ?_
   ·simp [execOp,e1,go_sem]
   ·exact Below.refl _ _
   ·exact Nat.le_refl _
   ·exact Nat.le_refl _
   ·exact rfl
  ·obtain rfl:=Option.some.inj ho
   obtain ⟨_,_,e'⟩:=hdeps ⟨0,.data⟩ (by simp) (by rfl) _ 8 rfl rfl
   have e:=evTmp (show a'.eval (.tmp 8)=.pointer (some ⟨w2.heap.size,0,none⟩) from e')
   have hc:w'.cell? ⟨w2.heap.size,0,none⟩=some (.int .i64 ar):=by rw [(bcell hB).1 _ _ hbx];exact x0
   refine stepG (v:=.int .i64 ar) (s:=w'.heap.size) (t:=w'.heap.size) (w'':=w') ?_ ?_ ?_ ?_ ?_
   ·simp [execOp,e,go_sem,hc]
   ·exact Below.refl _ _
   ·exact Nat.le_refl _
   ·exact Nat.le_refl _
   ·exact rfl
  ·obtain rfl:=Option.some.inj ho
   have e1:=evTmp (hF.ev 3 (by kernel_rfl) rfl)
   refine stepG (v:=.pointer (some ⟨w2.heap.size,1,none⟩)) (s:=w'.heap.size) (t:=w'.heap.size) (w'':=w') ?_ ?_ ?_ ?_ ?_
   ·simp [execOp,e1,go_sem]
   ·exact Below.refl _ _
   ·exact Nat.le_refl _
   ·exact Nat.le_refl _
   ·exact rfl
  ·obtain rfl:=Option.some.inj ho
   obtain ⟨_,_,e'⟩:=hdeps ⟨2,.data⟩ (by simp) (by rfl) _ 10 rfl rfl
   have e:=evTmp (show a'.eval (.tmp 10)=.pointer (some ⟨w2.heap.size,1,none⟩) from e')
   have hc:w'.cell? ⟨w2.heap.size,1,none⟩=some (.slice ra n rc):=by rw [(bcell hB).1 _ _ hbx];exact x1
   refine stepG (v:=.slice ra n rc) (s:=w'.heap.size) (t:=w'.heap.size) (w'':=w') ?_ ?_ ?_ ?_ ?_
   ·simp [execOp,e,go_sem,hc]
   ·exact Below.refl _ _
   ·exact Nat.le_refl _
   ·exact Nat.le_refl _
   ·exact rfl
  ·obtain rfl:=Option.some.inj ho
   obtain ⟨_,_,e5⟩:=hdeps ⟨1,.data⟩ (by simp) (by rfl) _ 9 rfl rfl
   obtain ⟨_,_,e9⟩:=hdeps ⟨3,.data⟩ (by simp) (by rfl) _ 11 rfl rfl
   have e5':a'.eval (.tmp 9)=.int .i64 ar:=e5
   have e9':a'.eval (.tmp 11)=.slice ra n rc:=e9
   refine stepG (v:=.agg #[.int .i64 ar,.slice ra n rc]) (s:=w'.heap.size) (t:=w'.heap.size) (w'':=w') ?_ ?_ ?_ ?_ ?_
   ·simp [execOp,evTmp e5',evTmp e9',Act.eval,go_sem]
   ·exact Below.refl _ _
   ·exact Nat.le_refl _
   ·exact Nat.le_refl _
   ·rfl
  ·obtain rfl:=Option.some.inj ho
   refine stepG (v:=.slice (some ⟨w'.heap.size,0,none⟩) 0 0) (s:=w'.heap.size) (t:=w'.heap.size) (w'':=w'.alloc (.cells #[] 3)) ?_ ?_ ?_ ?_ ?_
   ·simp [execOp,go_sem]
   ·exact belA
   ·exact Nat.le_refl _
   ·simp
   ·exact ⟨w'.heap.size,rfl,heap_alloc_new _ _⟩
  ·obtain rfl:=Option.some.inj ho
   have e1:=evTmp (hF.ev 1 (by kernel_rfl) rfl)
   refine stepG (v:=.pointer (some ⟨w.heap.size,2,none⟩)) (s:=w'.heap.size) (t:=w'.heap.size) (w'':=w') ?_ ?_ ?_ ?_ ?_
   ·simp [execOp,e1,go_sem]
   ·exact Below.refl _ _
   ·exact Nat.le_refl _
   ·exact Nat.le_refl _
   ·exact rfl
  ·obtain rfl:=Option.some.inj ho
   obtain ⟨_,_,e'⟩:=hdeps ⟨6,.data⟩ (by simp) (by rfl) _ 14 rfl rfl
   have e:=evTmp (show a'.eval (.tmp 14)=.pointer (some ⟨w.heap.size,2,none⟩) from e')
   have hc:w'.cell? ⟨w.heap.size,2,none⟩=some (.slice la ln lc):=by rw [(bcell hB).1 _ _ hX0];exact cX2
   refine stepG (v:=.slice la ln lc) (s:=w'.heap.size) (t:=w'.heap.size) (w'':=w') ?_ ?_ ?_ ?_ ?_
   ·simp [execOp,e,go_sem,hc]
   ·exact Below.refl _ _
   ·exact Nat.le_refl _
   ·exact Nat.le_refl _
   ·exact rfl
  ·obtain rfl:=Option.some.inj ho
   obtain ⟨_,_,g,e1,hg⟩:=hdeps ⟨5,.data⟩ (by simp) (by rfl) _ 13 rfl rfl
   obtain ⟨_,_,e2⟩:=hdeps ⟨7,.data⟩ (by simp) (by rfl) _ 15 rfl rfl
   have e1':a'.eval (.tmp 13)=.slice (some ⟨g,0,none⟩) 0 0:=e1
   have e2':a'.eval (.tmp 15)=.slice la ln lc:=e2
   obtain ⟨a1,c1,w3,s,t,hr,hb3,k1,k2,k3,k4⟩:=run_append_ints 27 g hg la ln lc lw (HIX.out.2.1.be hB hhX) (by omega)
   refine stepG (v:=.slice a1 ln c1) (s:=s) (t:=t) (w'':=w3) ?_ hb3 k1 k2 ⟨k2,k4,a1,c1,rfl,k3⟩
   simp [execOp,resolve,invoke,builtin,e1',e2',hr,Result.andThen]
  ·obtain rfl:=Option.some.inj ho
   refine stepG (v:=.slice (some ⟨w'.heap.size,0,none⟩) 0 0) (s:=w'.heap.size) (t:=w'.heap.size) (w'':=w'.alloc (.cells #[] 3)) ?_ ?_ ?_ ?_ ?_
   ·simp [execOp,go_sem]
   ·exact belA
   ·exact Nat.le_refl _
   ·simp
   ·exact ⟨w'.heap.size,rfl,heap_alloc_new _ _⟩
  ·obtain rfl:=Option.some.inj ho
   have e1:=evTmp (hF.ev 1 (by kernel_rfl) rfl)
   refine stepG (v:=.pointer (some ⟨w.heap.size,3,none⟩)) (s:=w'.heap.size) (t:=w'.heap.size) (w'':=w') ?_ ?_ ?_ ?_ ?_
   ·simp [execOp,e1,go_sem]
   ·exact Below.refl _ _
   ·exact Nat.le_refl _
   ·exact Nat.le_refl _
   ·exact rfl
  ·obtain rfl:=Option.some.inj ho
   obtain ⟨_,_,e'⟩:=hdeps ⟨10,.data⟩ (by simp) (by rfl) _ 18 rfl rfl
   have e:=evTmp (show a'.eval (.tmp 18)=.pointer (some ⟨w.heap.size,3,none⟩) from e')
   have hc:w'.cell? ⟨w.heap.size,3,none⟩=some (.slice ga gn gc):=by rw [(bcell hB).1 _ _ hX0];exact cX3
   refine stepG (v:=.slice ga gn gc) (s:=w'.heap.size) (t:=w'.heap.size) (w'':=w') ?_ ?_ ?_ ?_ ?_
   ·simp [execOp,e,go_sem,hc]
   ·exact Below.refl _ _
   ·exact Nat.le_refl _
   ·exact Nat.le_refl _
   ·exact rfl
  ·obtain rfl:=Option.some.inj ho
   obtain ⟨_,_,g,e1,hg⟩:=hdeps ⟨9,.data⟩ (by simp) (by rfl) _ 17 rfl rfl
   obtain ⟨_,_,e2⟩:=hdeps ⟨11,.data⟩ (by simp) (by rfl) _ 19 rfl rfl
   have e1':a'.eval (.tmp 17)=.slice (some ⟨g,0,none⟩) 0 0:=e1
   have e2':a'.eval (.tmp 19)=.slice ga gn gc:=e2
   obtain ⟨a1,c1,w3,s,t,hr,hb3,k1,k2,k3,k4⟩:=run_append_ints 27 g hg ga gn gc gh (HIX.out.2.2.1.be hB hhX) (by omega)
   refine stepG (v:=.slice a1 gn c1) (s:=s) (t:=t) (w'':=w3) ?_ hb3 k1 k2 ⟨k2,k4,a1,c1,rfl,k3⟩
   simp [execOp,resolve,invoke,builtin,e1',e2',hr,Result.andThen]
  ·obtain rfl:=Option.some.inj ho
   refine stepG (v:=.slice (some ⟨w'.heap.size,0,none⟩) 0 0) (s:=w'.heap.size) (t:=w'.heap.size) (w'':=w'.alloc (.cells #[] 3)) ?_ ?_ ?_ ?_ ?_
   ·simp [execOp,go_sem]
   ·exact belA
   ·exact Nat.le_refl _
   ·simp
   ·exact ⟨w'.heap.size,rfl,heap_alloc_new _ _⟩
  ·obtain rfl:=Option.some.inj ho
   have e1:=evTmp (hF.ev 1 (by kernel_rfl) rfl)
   refine stepG (v:=.pointer (some ⟨w.heap.size,4,none⟩)) (s:=w'.heap.size) (t:=w'.heap.size) (w'':=w') ?_ ?_ ?_ ?_ ?_
   ·simp [execOp,e1,go_sem]
   ·exact Below.refl _ _
   ·exact Nat.le_refl _
   ·exact Nat.le_refl _
   ·exact rfl
  ·obtain rfl:=Option.some.inj ho
   obtain ⟨_,_,e'⟩:=hdeps ⟨14,.data⟩ (by simp) (by rfl) _ 22 rfl rfl
   have e:=evTmp (show a'.eval (.tmp 22)=.pointer (some ⟨w.heap.size,4,none⟩) from e')
   have hc:w'.cell? ⟨w.heap.size,4,none⟩=some (.slice pa pn pc):=by rw [(bcell hB).1 _ _ hX0];exact cX4
   refine stepG (v:=.slice pa pn pc) (s:=w'.heap.size) (t:=w'.heap.size) (w'':=w') ?_ ?_ ?_ ?_ ?_
   ·simp [execOp,e,go_sem,hc]
   ·exact Below.refl _ _
   ·exact Nat.le_refl _
   ·exact Nat.le_refl _
   ·exact rfl
  ·obtain rfl:=Option.some.inj ho
   obtain ⟨_,_,g,e1,hg⟩:=hdeps ⟨13,.data⟩ (by simp) (by rfl) _ 21 rfl rfl
   obtain ⟨_,_,e2⟩:=hdeps ⟨15,.data⟩ (by simp) (by rfl) _ 23 rfl rfl
   have e1':a'.eval (.tmp 21)=.slice (some ⟨g,0,none⟩) 0 0:=e1
   have e2':a'.eval (.tmp 23)=.slice pa pn pc:=e2
   obtain ⟨a1,c1,w3,s,t,hr,hb3,k1,k2,k3,k4⟩:=run_append_ints 27 g hg pa pn pc ps (HIX.out.2.2.2.be hB hhX) (by omega)
   refine stepG (v:=.slice a1 pn c1) (s:=s) (t:=t) (w'':=w3) ?_ hb3 k1 k2 ⟨k2,k4,a1,c1,rfl,k3⟩
   simp [execOp,resolve,invoke,builtin,e1',e2',hr,Result.andThen]
 ·intro a' w' s t hB hF hV hD
  obtain ⟨⟨l⟩,df⟩:=a'
  obtain rfl:df=[]:=hF.1
  have hlen:l.length=26:=hF.2.1
  match l,hlen with
  | [u0,u1,u2,u3,u4,u5,u6,u7,u8,u9,u10,u11,u12,u13,u14,u15,u16,u17,u18,u19,u20,u21,u22,u23,u24,u25],_ =>
   have e2:u2=.pointer (some ⟨w.heap.size+1,0,none⟩):=hF.at 2 (by kernel_rfl)
   obtain ⟨_,_,e12⟩:=hV 4 _ 12 (by omega) rfl rfl
   obtain ⟨hs8,ht8,_,_,a8,c8,e16,r8⟩:=hV 8 _ 16 (by omega) rfl rfl
   obtain ⟨hs12,ht12,_,_,a12,c12,e20,r12⟩:=hV 12 _ 20 (by omega) rfl rfl
   obtain ⟨hs16,ht16,_,_,a16,c16,e24,r16⟩:=hV 16 _ 24 (by omega) rfl rfl
   replace e12:u12=.agg #[.int .i64 ar,.slice ra n rc]:=e12
   replace e16:u16=.slice a8 ln c8:=e16
   replace e20:u20=.slice a12 gn c12:=e20
   replace e24:u24=.slice a16 pn c16:=e24
   subst e12;subst e16;subst e20;subst e24;subst e2
   have Q0:w'.cell? ⟨w.heap.size+1,0,none⟩=some (.int .i64 0):=by rw [(bcell hB).1 _ _ hX1];exact qX0
   have F0:w'.frozen? ⟨w.heap.size+1,0,none⟩=false:=by rw [(bcell hB).2 _ _ hX1];exact fX0
   have Q1:w'.cell? ⟨w.heap.size+1,1,none⟩=some (.slice none 0 0):=by rw [(bcell hB).1 _ _ hX1];exact qX1
   have F1:w'.frozen? ⟨w.heap.size+1,1,none⟩=false:=by rw [(bcell hB).2 _ _ hX1];exact fX1
   have Q2:w'.cell? ⟨w.heap.size+1,2,none⟩=some (.slice none 0 0):=by rw [(bcell hB).1 _ _ hX1];exact qX2
   have F2:w'.frozen? ⟨w.heap.size+1,2,none⟩=false:=by rw [(bcell hB).2 _ _ hX1];exact fX2
   have Q3:w'.cell? ⟨w.heap.size+1,3,none⟩=some (.slice none 0 0):=by rw [(bcell hB).1 _ _ hX1];exact qX3
   have F3:w'.frozen? ⟨w.heap.size+1,3,none⟩=false:=by rw [(bcell hB).2 _ _ hX1];exact fX3
   have Q4:w'.cell? ⟨w.heap.size+1,4,none⟩=some (.slice none 0 0):=by rw [(bcell hB).1 _ _ hX1];exact qX4
   have F4:w'.frozen? ⟨w.heap.size+1,4,none⟩=false:=by rw [(bcell hB).2 _ _ hX1];exact fX4
   have HD:=hid (And.intro (hD 8 12 (by omega) (by omega) (by omega)) (And.intro (hD 8 16 (by omega) (by omega) (by omega)) (hD 12 16 (by omega) (by omega) (by omega))))
   have r0:=SepA.keep intsQOK HRX.out (Keeps.of_below hB (by omega))
   have HR:=hid (And.intro r0 (And.intro r8 (And.intro r12 (And.intro r16 (And.intro (And.intro hs8 ht8) (And.intro (And.intro hs12 ht12) (And.intro hs16 ht16)))))))
   have HBB:=hid hB
   clear hV hD hF r0 r8 r12 r16 hs8 ht8 hs12 ht12 hs16 ht16 hB qX0 fX0 qX1 fX1 qX2 fX2 qX3 fX3 qX4 fX4
   change wpList _ _ _ [_,_] _ _
   go_wp2
   have hzz:=HBB.out.size
   refine bodyPost_ret (v:=iterV ar ra n rc a8 ln c8 a12 gn c12 a16 pn c16) (by simp [results,Try.results29,go_sem,Q0,Q1,Q2,Q3,Q4]) rfl ⟨_,_,_,_,_,_,_,_,_,_,_,_,rfl,?_,?_⟩
   ·have h1:IterX (w.heap.size+2) w'.heap.size w' ar ra n rc rows a8 ln c8 lw a12 gn c12 gh a16 pn c16 ps:=⟨HAR.out,w1.heap.size,w2.heap.size,_,_,_,_,_,_,HR.out.1,HR.out.2.1,HR.out.2.2.1,HR.out.2.2.2.1,by have h:=HD.out;have h2:=HR.out.2.2.2.2;have h3:=HZ.out;unfold Apart4;omega⟩
    refine hgIterX (hi:=w'.heap.size) (wdIterX (lo:=w.heap.size+2) (kpIterX h1 ?_) (by omega)) (by simp only [sz_set];exact Nat.le_refl _)
    exact Keeps.sc (Keeps.sc (Keeps.sc (Keeps.sc (Keeps.sc (Keeps.refl _ _ _) (.inl (by omega)) _) (.inl (by omega)) _) (.inl (by omega)) _) (.inl (by omega)) _) (.inl (by omega)) _
   ·have hq:=HBW.out.trans ((HWX.out.trans (HBB.out.mono (by omega))).mono (by omega));exact (by repeat (first | with_reducible assumption | with_reducible exact Below.refl _ _ | with_reducible refine below_drewN ?_ _ | with_reducible refine below_drew1 ?_ | with_reducible refine Below.al ?_ (by first | with_reducible exact Nat.le_refl _ | omega | (simp;done) | (simp;omega) | exact Nat.le_refl _) _ | with_reducible refine Below.setCell ?_ (by first | with_reducible exact Nat.le_refl _ | omega | (simp;done) | (simp;omega) | exact Nat.le_refl _) _ | assumption | exact Below.refl _ _ | refine below_drewN ?_ _ | refine below_drew1 ?_ | refine Below.al ?_ (by first | with_reducible exact Nat.le_refl _ | omega | (simp;done) | (simp;omega) | exact Nat.le_refl _) _ | refine Below.setCell ?_ (by first | with_reducible exact Nat.le_refl _ | omega | (simp;done) | (simp;omega) | exact Nat.le_refl _) _))
theorem specCopyIt {fz:Bool} {lo hi:Nat} (ar:Int) (a:Option Addr) (n c:Nat) (rows:List (List Int)) (la:Option Addr) (ln lc:Nat) (lw:List Int) (ga:Option Addr) (gn gc:Nat) (gh:List Int) (pa:Option Addr) (pn pc:Nat) (ps:List Int) (w:World) (hI:IterA fz lo hi w ar a n c rows la ln lc lw ga gn gc gh pa pn pc ps) (hh:hi≤w.heap.size) (hs:szIter rows lw gh ps≤1048576) :
 Calls Try.prog 29 #[iterV ar a n c la ln lc ga gn gc pa pn pc] w (GvIterS w ar rows lw gh ps):=(specCopyItX ar a n c rows la ln lc lw ga gn gc gh pa pn pc ps w hI hh hs).mono fun _ _ h=>h.s
end Go.Proofs.Ytfobmfngbfbfdaa
namespace Go.Proofs.Ytfobmfngbfbfdaa
set_option linter.unusedSimpArgs false
set_option linter.unusedVariables false
open Go.RowKit
def GvItB (w:World) (ar:Int) (rows:List (List Int)) (lw gh ps:List Int) (ok:Bool) (e:Ending) (w':World):Prop :=
 ∃ a n c la ln lc ga gn gc pa pn pc,e=.returned (.tuple #[iterV ar a n c la ln lc ga gn gc pa pn pc,.bool ok])∧IterS w.heap.size w'.heap.size w' ar a n c rows la ln lc lw ga gn gc gh pa pn pc ps∧Below w.heap.size w w'
noncomputable def niAr (ar:Int) (rows:List (List Int)):Int:=if validR ar rows=true then ar else 0
noncomputable def niRows (ar:Int) (rows:List (List Int)):List (List Int):=if validR ar rows=true then rows else []
theorem nilInts (fz:Bool) (lo hi:Nat) (w:World):IntsA fz lo hi w none 0 0 []:=⟨rfl,Nat.le_refl _,by simp [maxLen],(by simp),fun h=>absurd h (Nat.lt_irrefl 0),fun _=>rfl⟩
theorem nilRowsS (lo:Nat) (w:World):RowsS lo w.heap.size w none 0 0 []:=SepA.own (e:=27) (base:=lo) (ownV_nil _ _ _) (SepV.nil _ _ _ _)
theorem nilIterS (lo:Nat) (w:World) (h:lo≤w.heap.size):IterS lo w.heap.size w 0 none 0 0 [] none 0 0 [] none 0 0 [] none 0 0 [] :=
 ⟨by unfold I64;omega,lo,w.heap.size,w.heap.size,w.heap.size,w.heap.size,w.heap.size,w.heap.size,w.heap.size,nilRowsS _ _,nilInts _ _ _ _,nilInts _ _ _ _,nilInts _ _ _ _,by unfold Apart4;omega⟩
set_option maxRecDepth 100000 in
set_option maxHeartbeats 12800000 in
theorem specNewIt {fz:Bool} {lo hi:Nat} (ar:Int) (a:Option Addr) (n c:Nat) (rows:List (List Int)) (w:World) (hI:RowsA fz lo hi w a n c rows) (hh:hi≤w.heap.size) (har:I64 ar) (hs:rowsSz rows≤1048576) :
 Calls Try.prog 55 #[trieV ar a n c] w (GvItB w (niAr ar rows) (niRows ar rows) [] [] [] (validR ar rows)):=by
 have HAR:=hid har;have HS:=hid hs;clear har hs
 obtain ⟨W,hW⟩:∃ W,W=(w.alloc (.cells #[.int .i64 ar,.slice a n c] 26)).alloc (.cells #[.int .i64 0,.slice none 0 0,.slice none 0 0,.slice none 0 0,.slice none 0 0] 29):=⟨_,rfl⟩
 have hBW:Below w.heap.size w W:=by rw [hW];exact belA
 have hz:W.heap.size=w.heap.size+2:=by rw [hW];simp
 have c0:W.cell? ⟨w.heap.size,0,none⟩=some (.int .i64 ar):=by rw [hW];first | (go_simp;done) | (simp [World.cell?];done)
 have c1:W.cell? ⟨w.heap.size,1,none⟩=some (.slice a n c):=by rw [hW];first | (go_simp;done) | (simp [World.cell?];done)
 have q0:W.cell? ⟨w.heap.size+1,0,none⟩=some (.int .i64 0):=by rw [hW];first | (go_simp;done) | (simp [World.cell?];done)
 have f0:W.frozen? ⟨w.heap.size+1,0,none⟩=false:=by rw [hW];first | (go_simp;done) | (simp [World.frozen?];done)
 have q1:W.cell? ⟨w.heap.size+1,1,none⟩=some (.slice none 0 0):=by rw [hW];first | (go_simp;done) | (simp [World.cell?];done)
 have f1:W.frozen? ⟨w.heap.size+1,1,none⟩=false:=by rw [hW];first | (go_simp;done) | (simp [World.frozen?];done)
 have q2:W.cell? ⟨w.heap.size+1,2,none⟩=some (.slice none 0 0):=by rw [hW];first | (go_simp;done) | (simp [World.cell?];done)
 have f2:W.frozen? ⟨w.heap.size+1,2,none⟩=false:=by rw [hW];first | (go_simp;done) | (simp [World.frozen?];done)
 have q3:W.cell? ⟨w.heap.size+1,3,none⟩=some (.slice none 0 0):=by rw [hW];first | (go_simp;done) | (simp [World.cell?];done)
 have f3:W.frozen? ⟨w.heap.size+1,3,none⟩=false:=by rw [hW];first | (go_simp;done) | (simp [World.frozen?];done)
 have q4:W.cell? ⟨w.heap.size+1,4,none⟩=some (.slice none 0 0):=by rw [hW];first | (go_simp;done) | (simp [World.cell?];done)
 have f4:W.frozen? ⟨w.heap.size+1,4,none⟩=false:=by rw [hW];first | (go_simp;done) | (simp [World.frozen?];done)
 have HIW:=hid (hI.be intsOK hBW hh)
 have hhW:hi≤W.heap.size:=by omega
 have hb0:w.heap.size<W.heap.size:=by omega
 have hb1':w.heap.size+1<W.heap.size:=by omega
 have HBW:=hid hBW;have HW:=hid hW;have HZ:=hid hz;clear hW hBW hz
 go_enter Try.func55,Try.ntmps55
 go_upto_region 1 with fail
 rw [← HW.out]
 go_wp2_with fail
 refine (specValidTrie ar a n c rows _ HIW.out hhW HAR.out).mono ?_
 rintro e w1 ⟨rfl,hb1⟩
 have hz:=hb1.size
 have c0':w1.cell? ⟨w.heap.size,0,none⟩=some (.int .i64 ar):=by rw [(bcell hb1).1 _ _ hb0];exact c0
 have c1':w1.cell? ⟨w.heap.size,1,none⟩=some (.slice a n c):=by rw [(bcell hb1).1 _ _ hb0];exact c1
 have q0':w1.cell? ⟨w.heap.size+1,0,none⟩=some (.int .i64 0):=by rw [(bcell hb1).1 _ _ hb1'];exact q0
 have f0':w1.frozen? ⟨w.heap.size+1,0,none⟩=false:=by rw [(bcell hb1).2 _ _ hb1'];exact f0
 have q1':w1.cell? ⟨w.heap.size+1,1,none⟩=some (.slice none 0 0):=by rw [(bcell hb1).1 _ _ hb1'];exact q1
 have f1':w1.frozen? ⟨w.heap.size+1,1,none⟩=false:=by rw [(bcell hb1).2 _ _ hb1'];exact f1
 have q2':w1.cell? ⟨w.heap.size+1,2,none⟩=some (.slice none 0 0):=by rw [(bcell hb1).1 _ _ hb1'];exact q2
 have f2':w1.frozen? ⟨w.heap.size+1,2,none⟩=false:=by rw [(bcell hb1).2 _ _ hb1'];exact f2
 have q3':w1.cell? ⟨w.heap.size+1,3,none⟩=some (.slice none 0 0):=by rw [(bcell hb1).1 _ _ hb1'];exact q3
 have f3':w1.frozen? ⟨w.heap.size+1,3,none⟩=false:=by rw [(bcell hb1).2 _ _ hb1'];exact f3
 have q4':w1.cell? ⟨w.heap.size+1,4,none⟩=some (.slice none 0 0):=by rw [(bcell hb1).1 _ _ hb1'];exact q4
 have f4':w1.frozen? ⟨w.heap.size+1,4,none⟩=false:=by rw [(bcell hb1).2 _ _ hb1'];exact f4
 have HB1:=hid hb1;clear hb1 c0 c1 q0 f0 q1 f1 q2 f2 q3 f3 q4 f4
 by_cases hv:validR ar rows=true
 ·rw [hv]
  go_wp2_with fail
  refine (specCopyIt ar a n c rows none 0 0 [] none 0 0 [] none 0 0 [] _ ⟨⟨HAR.out,HIW.out.be intsOK HB1.out hhW⟩,nilInts _ _ _ _,nilInts _ _ _ _,nilInts _ _ _ _⟩ (by omega) (by have:=HS.out;simp [szIter];omega)).mono ?_
  rintro e w2 ⟨ra,rn,rc,la,ln,lc,ga,gn,gc,pa,pn,pc,rfl,hS,hb2⟩
  have hz2:=hb2.size
  have q0w:w2.cell? ⟨w.heap.size+1,0,none⟩=some (.int .i64 0):=by rw [(bcell hb2).1 _ _ (by omega)];exact q0'
  have f0w:w2.frozen? ⟨w.heap.size+1,0,none⟩=false:=by rw [(bcell hb2).2 _ _ (by omega)];exact f0'
  have q1w:w2.cell? ⟨w.heap.size+1,1,none⟩=some (.slice none 0 0):=by rw [(bcell hb2).1 _ _ (by omega)];exact q1'
  have f1w:w2.frozen? ⟨w.heap.size+1,1,none⟩=false:=by rw [(bcell hb2).2 _ _ (by omega)];exact f1'
  have q2w:w2.cell? ⟨w.heap.size+1,2,none⟩=some (.slice none 0 0):=by rw [(bcell hb2).1 _ _ (by omega)];exact q2'
  have f2w:w2.frozen? ⟨w.heap.size+1,2,none⟩=false:=by rw [(bcell hb2).2 _ _ (by omega)];exact f2'
  have q3w:w2.cell? ⟨w.heap.size+1,3,none⟩=some (.slice none 0 0):=by rw [(bcell hb2).1 _ _ (by omega)];exact q3'
  have f3w:w2.frozen? ⟨w.heap.size+1,3,none⟩=false:=by rw [(bcell hb2).2 _ _ (by omega)];exact f3'
  have q4w:w2.cell? ⟨w.heap.size+1,4,none⟩=some (.slice none 0 0):=by rw [(bcell hb2).1 _ _ (by omega)];exact q4'
  have f4w:w2.frozen? ⟨w.heap.size+1,4,none⟩=false:=by rw [(bcell hb2).2 _ _ (by omega)];exact f4'
  have HS2:=hid hS;have HB2:=hid hb2;clear hS hb2 q0' f0' q1' f1' q2' f2' q3' f3' q4' f4'
  go_wp2
  refine bodyPost_ret (v:=.tuple #[iterV ar ra rn rc la ln lc ga gn gc pa pn pc,.bool true]) (by simp [results,Try.results55,go_sem,q0w,q1w,q2w,q3w,q4w]) rfl ⟨ra,rn,rc,la,ln,lc,ga,gn,gc,pa,pn,pc,by rw [hv,show niAr ar rows=ar from if_pos hv],?_,?_⟩
  ·have h1:IterS w1.heap.size w2.heap.size w2 (niAr ar rows) ra rn rc (niRows ar rows) la ln lc [] ga gn gc [] pa pn pc []:=by unfold niAr niRows;rw [if_pos hv,if_pos hv];exact HS2.out
   refine hgIterS (hi:=w2.heap.size) (wdIterS (lo:=w1.heap.size) (kpIterS h1 ?_) (by have:=HZ.out;omega)) (by simp only [sz_set];exact Nat.le_refl _)
   exact Keeps.sc (Keeps.sc (Keeps.sc (Keeps.sc (Keeps.sc (Keeps.refl _ _ _) (.inl (by omega)) _) (.inl (by omega)) _) (.inl (by omega)) _) (.inl (by omega)) _) (.inl (by omega)) _
  ·have hq:=HBW.out.trans ((HB1.out.trans (HB2.out.mono (by omega))).mono (by omega));exact (((((hq.setCell (by simp) _).setCell (by simp) _).setCell (by simp) _).setCell (by simp) _).setCell (by simp) _)
 ·have hv':validR ar rows=false:=by simpa using hv
  rw [hv']
  go_wp2
  refine bodyPost_ret (v:=.tuple #[iterV 0 none 0 0 none 0 0 none 0 0 none 0 0,.bool false]) (by simp [results,Try.results55,go_sem,q0',q1',q2',q3',q4']) rfl ⟨none,0,0,none,0,0,none,0,0,none,0,0,by rw [hv',show niAr ar rows=0 from if_neg hv],?_,?_⟩
  ·have h1:niAr ar rows=0:=by unfold niAr;exact if_neg hv
   have h2:niRows ar rows=[]:=by unfold niRows;exact if_neg hv
   rw [h1,h2]
   exact nilIterS _ _ (by have:=HZ.out;simp only [sz_set];omega)
  ·have hq:=HBW.out.trans (HB1.out.mono (by omega));exact (((((hq.setCell (by simp) _).setCell (by simp) _).setCell (by simp) _).setCell (by simp) _).setCell (by simp) _)
end Go.Proofs.Ytfobmfngbfbfdaa
