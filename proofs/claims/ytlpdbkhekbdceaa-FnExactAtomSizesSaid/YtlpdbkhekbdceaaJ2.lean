/- Lemmas for the proof of FnExactAtomSizes, part 2 of 19: no condition of their own. -/
import Derived.Test.YtlpdbkhekbdceaaJ1
import Derived.Deep.Slices
import Derived.Deep.RegionHeld3
namespace Go.Proofs.Ytlpdbkhekbdceaa
set_option linter.unusedSimpArgs false
set_option linter.unusedVariables false
open Go.RowKit
def RowOK (ar:Int) (rows:List (List Int)) (i:Nat):Prop:=((rx rows i).length:Int)=ar∧valB (rx rows i)=true∧(0<i→cmpR (rx rows (i - 1)) (rx rows i)<0)
open Classical in
noncomputable def validR (ar:Int) (rows:List (List Int)):Bool:=decide ((0≤ar∧ar≤5)∧rows.length≤4000∧∀ i,i<rows.length→RowOK ar rows i)
theorem validR_true {ar:Int} {rows:List (List Int)} (h1:0≤ar∧ar≤5) (h2:rows.length≤4000) (h3:∀ i,i<rows.length→RowOK ar rows i):validR ar rows=true:=by
 simp only [validR,decide_eq_true_eq];exact ⟨h1,h2,h3⟩
theorem validR_ar {ar:Int} {rows:List (List Int)} (h1:¬ (0≤ar∧ar≤5)):validR ar rows=false:=by
 simp only [validR,decide_eq_false_iff_not];exact fun h=>h1 h.1
theorem validR_big {ar:Int} {rows:List (List Int)} (h1:¬ rows.length≤4000):validR ar rows=false:=by
 simp only [validR,decide_eq_false_iff_not];exact fun h=>h1 h.2.1
theorem validR_row {ar:Int} {rows:List (List Int)} {i:Nat} (hi:i<rows.length) (h1:¬ RowOK ar rows i):validR ar rows=false:=by
 simp only [validR,decide_eq_false_iff_not];exact fun h=>h1 (h.2.2 i hi)
theorem validR_out {ar:Int} {rows:List (List Int)} (h:validR ar rows=true):(0≤ar∧ar≤5)∧rows.length≤4000∧∀ i,i<rows.length→RowOK ar rows i:=by
 simpa only [validR,decide_eq_true_eq] using h
set_option maxHeartbeats 1600000 in
theorem implRowsValid {fz:Bool} {lo hi:Nat} (ar:Int) (a:Option Addr) (n c:Nat) (rows:List (List Int)) (w:World) (hI:RowsA fz lo hi w a n c rows) (har:I64 ar) :
 Calls Try.prog 76 #[.int .i64 ar,.slice a n c] w (Gives w (.bool (validR ar rows))):=by
 have hl:=hI.len
 have hs:=hI.small
 have HL:=hid hl;clear hl
 have HAR:=hid har;clear har
 by_cases hw:0≤ar∧ar≤5
 ·have hd:decide (0≤ar∧ar≤5)=true:=by simpa using hw
  by_cases hn:n≤4000
  ·go_enter Try.func76,Try.ntmps76
   go_wp2_with fail
   refine (implWithin ar 0 5 _).mono ?_
   rintro e w1 ⟨rfl,m1,hw1⟩
   rw [hd]
   have HD1:Hid (∃ m,w1=w.drewN m):=hid ⟨m1,hw1⟩
   clear hw1
   go_wp2_with fail
   go_loopw [17] (fun i wr=>∃ k:Nat,i=.int .i64 k∧k≤n∧Hid (∀ i,i<k→RowOK ar rows i)∧Hid (∃ m,wr=w.drewN m)) (fun i _=>n - (intOf i).toNat)
   case atStart=>exact ⟨0,rfl,by omega,hid (fun i hi=>by omega),HD1⟩
   case round =>
    obtain ⟨k,rfl,hk,HT,HD⟩:=hrel
    by_cases hlt:k<n
    ·have hIr:RowsA fz lo hi wr a n c rows:=hI.keep intsOK (keeps_dr lo hi HD.out)
     obtain ⟨b,off,rfl⟩:=hI.some (by omega)
     obtain ⟨_,_,ra,rn,rc,hc,hr,_⟩:=hIr.at hlt
     have hrl:=hr.len
     have hrs:=hr.small
     have HRL:=hid hrl;clear hrl
     have HR:=hid hr;clear hr
     have HI:=hid hI;clear hI
     by_cases he:(rn:Int)=ar
     ·have hb:((rn:Int) != ar)=false:=by simp [he]
      have HE:=hid he;clear he
      obtain ⟨vb,hvb⟩:∃ vb,valB (rx rows k)=vb:=⟨_,rfl⟩
      have HVB:=hid hvb;clear hvb
      cases vb with
      | false =>
       have HF:=hid (validR_row (ar:=ar) (rows:=rows) (i:=k) (by rw [HL.out];exact hlt) (by rintro ⟨_,h2,_⟩;rw [HVB.out] at h2;cases h2))
       have HIR:=hid hIr;clear hIr
       go_wp2_with fail
       refine (implVals ra rn rc _ _ HR.out).mono ?_
       rintro e w2 ⟨rfl,m2,rfl⟩
       rw [HVB.out]
       go_wp2_with fail
       go_ret
       exact ⟨by rw [HF.out];rfl,dr_more HD.out _⟩
      | true =>
       by_cases h0:k=0
       ·have HT2:Hid (∀ i,i<k+1→RowOK ar rows i):=hid (fun i hi=>by
         obtain rfl:i=k:=by omega
         exact ⟨by rw [HRL.out];exact HE.out,HVB.out,fun h=>by omega⟩)
        have HIR:=hid hIr;clear hIr
        have h0':¬ 0<k:=by omega
        have H0:=hid h0;clear h0
        go_wp2_with fail
        refine (implVals ra rn rc _ _ HR.out).mono ?_
        rintro e w2 ⟨rfl,m2,rfl⟩
        rw [HVB.out]
        go_wp2_with fail
        go_roundw
        case rel=>exact ⟨k+1,by go_num,by omega,HT2,hid (dr_more HD.out _)⟩
        case measure=>simp [intOf];omega
       ·obtain ⟨j,rfl⟩:∃ j,k=j+1:=⟨k - 1,by omega⟩
        obtain ⟨_,_,qa,qn,qc,hcq,hq,_⟩:=hIr.at (show j<n by omega)
        have HQ:=hid hq;clear hq
        have HIR:=hid hIr;clear hIr
        clear h0
        obtain ⟨d,hde⟩:∃ d,cmpR (rx rows j) (rx rows (j+1))=d:=⟨_,rfl⟩
        have HDE:=hid hde;clear hde
        by_cases hd0:d<0
        ·have HT2:Hid (∀ i,i<j+1+1→RowOK ar rows i):=hid (fun i hi=>by
          by_cases e:i=j+1
          ·subst e;exact ⟨by rw [HRL.out];exact HE.out,HVB.out,fun _=>by show cmpR (rx rows j) _<0;rw [HDE.out];exact hd0⟩
          ·exact HT.out i (by omega))
         go_wp2_with fail
         refine (implVals ra rn rc _ _ HR.out).mono ?_
         rintro e w2 ⟨rfl,m2,rfl⟩
         rw [HVB.out]
         go_wp2_with fail
         refine (implCmpR qa ra qn qc rn rc _ _ _ (HQ.out.drewN _) (HR.out.drewN _)).mono ?_
         rintro e w3 ⟨rfl,m3,rfl⟩
         rw [HDE.out]
         go_wp2_with fail
         go_roundw
         case rel=>exact ⟨j+1+1,by go_num,by omega,HT2,hid (by first | exact dr_more HD.out _ | (rw [dd];exact dr_more HD.out _))⟩
         case measure=>simp [intOf];omega
        ·have HF:=hid (validR_row (ar:=ar) (rows:=rows) (i:=j+1) (by rw [HL.out];exact hlt) (by rintro ⟨_,_,h2⟩;have:=h2 (by omega);simp only [Nat.add_sub_cancel] at this;rw [HDE.out] at this;exact hd0 this))
         go_wp2_with fail
         refine (implVals ra rn rc _ _ HR.out).mono ?_
         rintro e w2 ⟨rfl,m2,rfl⟩
         rw [HVB.out]
         go_wp2_with fail
         refine (implCmpR qa ra qn qc rn rc _ _ _ (HQ.out.drewN _) (HR.out.drewN _)).mono ?_
         rintro e w3 ⟨rfl,m3,rfl⟩
         rw [HDE.out]
         go_wp2_with fail
         go_ret
         exact ⟨by rw [HF.out];rfl,by first | exact dr_more HD.out _ | (rw [dd];exact dr_more HD.out _)⟩
     ·have hb:((rn:Int) != ar)=true:=by simp [he]
      have HF:=hid (validR_row (ar:=ar) (rows:=rows) (i:=k) (by rw [HL.out];exact hlt) (by rintro ⟨h2,_⟩;rw [HRL.out] at h2;exact he h2))
      have HE:=hid he;clear he
      have HIR:=hid hIr;clear hIr
      go_wp2_with fail
      go_ret
      exact ⟨by rw [HF.out];rfl,HD.out⟩
    ·have HF:=hid (validR_true (ar:=ar) (rows:=rows) hw (by rw [HL.out];exact hn) (by rw [HL.out];intro i hi;exact HT.out i (by omega)))
     go_wp2_with fail
     go_ret
     exact ⟨by rw [HF.out];rfl,HD.out⟩
  ·have HF:=hid (validR_big (ar:=ar) (rows:=rows) (by rw [HL.out];exact hn))
   go_enter Try.func76,Try.ntmps76
   go_wp2_with fail
   refine (implWithin ar 0 5 _).mono ?_
   rintro e w1 ⟨rfl,m1,rfl⟩
   rw [hd]
   go_wp2_with fail
   go_ret
   exact ⟨by rw [HF.out];rfl,_,rfl⟩
 ·have hd:decide (0≤ar∧ar≤5)=false:=by simpa using hw
  have HF:=hid (validR_ar (rows:=rows) hw)
  go_enter Try.func76,Try.ntmps76
  go_wp2_with fail
  refine (implWithin ar 0 5 _).mono ?_
  rintro e w1 ⟨rfl,m1,rfl⟩
  rw [hd]
  go_wp2_with fail
  go_ret
  exact ⟨by rw [HF.out];rfl,_,rfl⟩
section
variable {α:Type} {k:Nat} {R:Rep α} {fz:Bool} {lo hi:Nat} {w w':World} {a:Option Addr} {n c:Nat} {xs:List α}
theorem SlA.be (ok:RepOK R) (h:SlA k R fz lo hi w a n c xs) {B:Nat} (hb:Below B w w') (hh:hi≤B):SlA k R fz lo hi w' a n c xs:=h.keep ok (Keeps.of_below hb hh)
theorem SlA.al (ok:RepOK R) (h:SlA k R fz lo hi w a n c xs) (hh:hi≤w.heap.size) (o:Obj):SlA k R fz lo hi (w.alloc o) a n c xs:=h.be ok ((Below.refl _ _).alloc (Nat.le_refl _) o) hh
end
theorem IntsA.be {fz:Bool} {lo hi:Nat} {w w':World} {a:Option Addr} {n c:Nat} {xs:List Int} (h:IntsA fz lo hi w a n c xs) {B:Nat} (hb:Below B w w') (hh:hi≤B):IntsA fz lo hi w' a n c xs:=h.keep (Keeps.of_below hb hh)
theorem IntsA.al {fz:Bool} {lo hi:Nat} {w:World} {a:Option Addr} {n c:Nat} {xs:List Int} (h:IntsA fz lo hi w a n c xs) (hh:hi≤w.heap.size) (o:Obj):IntsA fz lo hi (w.alloc o) a n c xs:=h.be ((Below.refl _ _).alloc (Nat.le_refl _) o) hh
theorem Below.al {B:Nat} {a w:World} (h:Below B a w) (hb:B≤w.heap.size) (o:Obj):Below B a (w.alloc o):=h.alloc hb o
theorem leA {a b:Nat} (h:a≤b:=by first | with_reducible exact Nat.le_refl _ | omega | (simp;done) | (simp;omega) | exact Nat.le_refl _):a≤b:=h
theorem belA {B:Nat} {a w:World} (h:Below B a w:=by repeat (first | with_reducible assumption | with_reducible exact Below.refl _ _ | with_reducible refine below_drewN ?_ _ | with_reducible refine Below.al ?_ (by first | with_reducible exact Nat.le_refl _ | omega | (simp;done) | (simp;omega) | exact Nat.le_refl _) _ | with_reducible refine Below.setCell ?_ (by first | with_reducible exact Nat.le_refl _ | omega | (simp;done) | (simp;omega) | exact Nat.le_refl _) _ | assumption | exact Below.refl _ _ | refine below_drewN ?_ _ | refine Below.al ?_ (by first | with_reducible exact Nat.le_refl _ | omega | (simp;done) | (simp;omega) | exact Nat.le_refl _) _ | refine Below.setCell ?_ (by first | with_reducible exact Nat.le_refl _ | omega | (simp;done) | (simp;omega) | exact Nat.le_refl _) _)):Below B a w:=h
theorem Gives.leaves {w:World} {v:Value} {e:Ending} {w':World} (h:Gives w v e w'):Leaves w v e w':=by
 obtain ⟨rfl,m,rfl⟩:=h;exact ⟨rfl,below_drewN (Below.refl _ _) m⟩
theorem bcell {W w1:World} (hb:Below W.heap.size W w1):(∀ b o,b<W.heap.size→w1.cell? ⟨b,o,none⟩=W.cell? ⟨b,o,none⟩)∧(∀ b o,b<W.heap.size→w1.frozen? ⟨b,o,none⟩=W.frozen? ⟨b,o,none⟩) :=
 ⟨fun b o h=>hb.cell (p:=⟨b,o,none⟩) h,fun b o h=>hb.frozen (p:=⟨b,o,none⟩) h⟩
theorem Keeps.sc {lo hi:Nat} {w w':World} {b o:Nat} (h:Keeps lo hi w w') (hb:b<lo∨hi≤b) (v:Value):Keeps lo hi w (w'.setCell ⟨b,o,none⟩ v):=fun k h1 h2=>by
 rw [heap_setCell_other w' ⟨b,o,none⟩ k _ (by show k ≠ b;omega)];exact h k h1 h2
theorem Keeps.al {lo hi:Nat} {w w':World} (h:Keeps lo hi w w') (hh:hi≤w'.heap.size) (o:Obj):Keeps lo hi w (w'.alloc o):=h.trans (Keeps.of_below ((Below.refl _ _).alloc (Nat.le_refl _) o) hh)
theorem Keeps.dr {lo hi:Nat} {w w':World} (h:Keeps lo hi w w') (m:Nat):Keeps lo hi w (w'.drewN m):=h
abbrev trieV (ar:Int) (a:Option Addr) (n c:Nat):Value:=.agg #[.int .i64 ar,.slice a n c]
set_option maxHeartbeats 400000 in
theorem implValidRel {fz:Bool} {lo hi:Nat} (ar:Int) (a:Option Addr) (n c:Nat) (rows:List (List Int)) (w:World) (hI:RowsA fz lo hi w a n c rows) (hh:hi≤w.heap.size) (har:I64 ar) :
 Calls Try.prog 65 #[trieV ar a n c] w (Leaves w (.bool (validR ar rows))):=by
 have HAR:=hid har;clear har
 go_enter Try.func65,Try.ntmps65
 go_wp2_with fail
 refine (implRowsValid ar a n c rows _ (hI.al intsOK hh _) HAR.out).mono ?_
 rintro e w1 ⟨rfl,m1,rfl⟩
 go_wp2_with fail
 go_ret
 exact ⟨rfl,(by repeat (first | with_reducible assumption | with_reducible exact Below.refl _ _ | with_reducible refine below_drewN ?_ _ | with_reducible refine Below.al ?_ (by first | with_reducible exact Nat.le_refl _ | omega | (simp;done) | (simp;omega) | exact Nat.le_refl _) _ | with_reducible refine Below.setCell ?_ (by first | with_reducible exact Nat.le_refl _ | omega | (simp;done) | (simp;omega) | exact Nat.le_refl _) _ | assumption | exact Below.refl _ _ | refine below_drewN ?_ _ | refine Below.al ?_ (by first | with_reducible exact Nat.le_refl _ | omega | (simp;done) | (simp;omega) | exact Nat.le_refl _) _ | refine Below.setCell ?_ (by first | with_reducible exact Nat.le_refl _ | omega | (simp;done) | (simp;omega) | exact Nat.le_refl _) _))⟩
end Go.Proofs.Ytlpdbkhekbdceaa
namespace Go.Proofs.Ytlpdbkhekbdceaa
set_option linter.unusedSimpArgs false
set_option linter.unusedVariables false
open Go.RowKit
def GivesTrie (w:World) (ar:Int) (rows:List (List Int)) (e:Ending) (w':World):Prop :=
 ∃ a n c,e=.returned (trieV ar a n c)∧RowsA true w.heap.size w'.heap.size w' a n c rows∧Below w.heap.size w w'
open Classical in
noncomputable def eqT (ar ar':Int) (rows rows':List (List Int)):Bool:=decide (ar=ar'∧rows=rows')
theorem eqT_refl (ar:Int) (rows:List (List Int)):eqT ar ar rows rows=true:=by simp [eqT]
end Go.Proofs.Ytlpdbkhekbdceaa
namespace Go.Proofs.Ytlpdbkhekbdceaa
set_option linter.unusedSimpArgs false
set_option linter.unusedVariables false
open Go.RowKit
theorem cset_same {w:World} {a:Addr} {v u:Value} (h:w.cell? a=some u):(w.setCell a v).cell? a=some v:=by
 apply World.cell?_setCell_same <;> assumption
theorem cset_other {w:World} {a b:Addr} {v:Value} (h:a ≠ b):(w.setCell a v).cell? b=w.cell? b:=by
 apply World.cell?_setCell_other <;> assumption
def CellM (v v':Value):Prop:=v'=v∨∃ x x',v=.int .i64 x∧v'=.int .i64 x'∧I64 x'
theorem CellM.trans {a b c:Value} (h:CellM a b) (k:CellM b c):CellM a c:=by
 rcases k with rfl | ⟨x,x',rfl,rfl,hx⟩
 ·exact h
 ·rcases h with h | ⟨y,y',rfl,_,_⟩
  ·exact .inr ⟨x,x',h.symm,rfl,hx⟩
  ·exact .inr ⟨y,x',rfl,rfl,hx⟩
structure Marked (lo hi:Nat) (w w':World):Prop where
 os:w'.os=w.os
 tape:w'.tape=w.tape
 output:w'.output=w.output
 size:w'.heap.size=w.heap.size
 out:∀ k,(k<lo∨hi≤k)→w'.heap[k]? = w.heap[k]?
 cell:∀ p v,w.cell? p=some v→∃ v',w'.cell? p=some v'∧CellM v v'
 frz:∀ p,w'.frozen? p=w.frozen? p
theorem Marked.refl (lo hi:Nat) (w:World):Marked lo hi w w:=⟨rfl,rfl,rfl,rfl,fun _ _=>rfl,fun _ v h=>⟨v,h,.inl rfl⟩,fun _=>rfl⟩
theorem Marked.trans {lo hi:Nat} {a b c:World} (h:Marked lo hi a b) (k:Marked lo hi b c):Marked lo hi a c :=
 ⟨k.os.trans h.os,k.tape.trans h.tape,k.output.trans h.output,k.size.trans h.size,fun i hi=>(k.out i hi).trans (h.out i hi),fun p v hp=>by
  obtain ⟨v',g1,g2⟩:=h.cell p v hp
  obtain ⟨v'',g3,g4⟩:=k.cell p v' g1
  exact ⟨v'',g3,g2.trans g4⟩,fun p=>(k.frz p).trans (h.frz p)⟩
theorem Marked.drewN {lo hi:Nat} {a b:World} (h:Marked lo hi a b) (m:Nat):Marked lo hi a (b.drewN m):=⟨h.os,h.tape,h.output,h.size,h.out,h.cell,h.frz⟩
theorem Marked.wide {lo hi lo' hi':Nat} {a b:World} (h:Marked lo hi a b) (h1:lo'≤lo) (h2:hi≤hi'):Marked lo' hi' a b:=⟨h.os,h.tape,h.output,h.size,fun k hk=>h.out k (by omega),h.cell,h.frz⟩
theorem Marked.below {lo hi:Nat} {a b:World} (h:Marked lo hi a b):Below lo a b:=⟨h.os,h.tape,h.output,by rw [h.size];exact Nat.le_refl _,fun k hk=>h.out k (.inl hk)⟩
theorem Marked.keeps {lo hi lo' hi':Nat} {a b:World} (h:Marked lo hi a b) (hd:hi'≤lo∨hi≤lo'):Keeps lo' hi' a b:=fun k h1 h2=>h.out k (by omega)
theorem marked_set {lo hi:Nat} {w:World} {b o:Nat} {x x':Int} (h:w.cell? ⟨b,o,none⟩=some (.int .i64 x)) (h1:lo≤b) (h2:b<hi) (hx:I64 x'):Marked lo hi w (w.setCell ⟨b,o,none⟩ (.int .i64 x')):=by
 refine ⟨rfl,rfl,rfl,by simp [World.setCell],fun k hk=>?_,fun p v hp=>?_,fun p=>by simp⟩
 ·rw [heap_setCell_other w ⟨b,o,none⟩ k _ (by show k ≠ b;omega)]
 ·by_cases e:(⟨b,o,none⟩:Addr)=p
  ·subst e
   rw [h] at hp
   cases hp
   exact ⟨_,cset_same h,.inr ⟨x,x',rfl,rfl,hx⟩⟩
  ·exact ⟨v,by rw [cset_other e];exact hp,.inl rfl⟩
theorem IntsA.marked {lo hi lo' hi':Nat} {w w':World} {a:Option Addr} {n c:Nat} {xs:List Int} (h:IntsA true lo hi w a n c xs) (hm:Marked lo' hi' w w'):∃ ys,IntsA true lo hi w' a n c ys:=by
 obtain ⟨h1,h2,h3,h4,h5,h6⟩:=h
 by_cases hn:0<n
 ·obtain ⟨b,off,ha,hl,hb,hc⟩:=h5 hn
  have each:∀ i,i<n→∃ y:Int,I64 y∧w'.cell? ⟨b,off+i,none⟩=some (.int .i64 y):=by
   intro i hi
   obtain ⟨v',g1,g2⟩:=hm.cell _ _ (hc i hi).1
   rcases g2 with rfl | ⟨_,y,_,rfl,hy⟩
   ·exact ⟨ix xs i,by rw [ix_lt (by omega)];exact h4 _ (List.getElem_mem _),g1⟩
   ·exact ⟨y,hy,g1⟩
  obtain ⟨y,hy⟩:=Deep.choose_lt each
  refine ⟨(List.range n).map y,by simp,h2,h3,?_,fun _=>⟨b,off,ha,hl,hb,fun i hi=>⟨?_,fun hf=>by rw [hm.frz];exact (hc i hi).2 hf⟩⟩,h6⟩
  ·intro z hz
   obtain ⟨i,hi,rfl⟩:=List.mem_map.1 hz
   exact (hy i (by simpa using hi)).1
  ·rw [(hy i hi).2];simp [ix,hi]
 ·exact ⟨xs,h1,h2,h3,h4,fun h=>absurd h hn,h6⟩
def marks (k:Int):Nat→List Int
 | 0=>[]
 | n+1=>marks k n ++ [k+n]
theorem marks_len (k:Int) (n:Nat):(marks k n).length=n:=by
 induction n with
 | zero=>rfl
 | succ n ih=>simp [marks,ih]
theorem marks_ix (k:Int) {n i:Nat} (h:i<n):ix (marks k n) i=k+i:=by
 induction n with
 | zero=>omega
 | succ n ih =>
  simp only [marks,ix,List.getD]
  by_cases e:i<n
  ·rw [List.getElem?_append_left (by rw [marks_len];exact e)];exact ih e
  ·obtain rfl:i=n:=by omega
   rw [List.getElem?_append_right (by rw [marks_len];exact Nat.le_refl _),marks_len];simp
theorem marks_i64 {k:Int} {n:Nat} (h0:0≤k) (h1:k≤4194304) (hn:n≤1048576):∀ z∈marks k n,I64 z:=by
 induction n with
 | zero=>intro z hz;simp [marks] at hz
 | succ n ih =>
  intro z hz
  simp only [marks,List.mem_append,List.mem_singleton] at hz
  rcases hz with hz | rfl
  ·exact ih (by omega) z hz
  ·unfold I64;omega
def GivesMarked (lo hi:Nat) (w:World) (r:Int) (a:Option Addr) (n c:Nat) (ys:List Int) (e:Ending) (w':World):Prop :=
 e=.returned (.int .i64 r)∧Marked lo hi w w'∧IntsA true lo hi w' a n c ys
set_option maxHeartbeats 800000 in
theorem markInts {lo hi:Nat} (a:Option Addr) (n c:Nat) (xs:List Int) (k:Int) (w:World) (hI:IntsA true lo hi w a n c xs) (h0:0≤k) (h1:k≤4194304) (hn:n≤1048576) :
 Calls Try.prog 15 #[.slice a n c,.int .i64 k] w (GivesMarked lo hi w (k+n) a n c (marks k n)):=by
 have hs:=hI.small
 by_cases hn0:0<n
 ·obtain ⟨b,off,rfl,hlo,hhi,hc,hz⟩:=hI.open hn0
  have hz:=hz rfl
  have hcap:=hI.2.1
  have hcm:=hI.2.2.1
  have HC:=hid (And.intro hc hz)
  have HI:=hid hI;clear hI hc hz
  go_enter Try.func15,Try.ntmps15
  go_wp2
  go_loopw [1,5] (fun q i wr=>∃ (j:Nat) (t:Int),i=.int .i64 j∧q=.int .i64 t∧t=k+j∧j≤n∧Marked lo hi w wr∧∀ i,i<j→wr.cell? ⟨b,off+i,none⟩=some (.int .i64 (k+i))) (fun _ i _=>n - (intOf i).toNat)
  case atStart=>exact ⟨0,_,rfl,rfl,by omega,by omega,Marked.refl _ _ _,fun i hi=>by omega⟩
  case round =>
   obtain ⟨j,t,rfl,rfl,ht,hj,hm,hcells⟩:=hrel
   have ht1:0≤t:=by omega
   have ht2:t≤5242880:=by omega
   have HT:=hid ht;clear ht
   have HM:=hid hm;clear hm
   have HCE:=hid hcells;clear hcells
   by_cases hlt:j<n
   ·obtain ⟨v',hv,hcm'⟩:=HM.out.cell _ _ (HC.out.1 j hlt)
    obtain ⟨y,hy⟩:∃ y,wr.cell? ⟨b,off+j,none⟩=some (.int .i64 y):=by
     rcases hcm' with rfl | ⟨_,y,_,rfl,_⟩
     ·exact ⟨_,hv⟩
     ·exact ⟨y,hv⟩
    have hf:wr.frozen? ⟨b,off+j,none⟩=false:=by rw [HM.out.frz];exact HC.out.2 j hlt
    have HMS:=hid (marked_set (x':=t) hy hlo hhi (by unfold I64;omega))
    clear hv hcm'
    have HY:=hid hy
    go_wp2
    go_roundw
    case rel=>exact ⟨j+1,_,by go_num,rfl,by have:=HT.out;omega,by omega,HM.out.trans HMS.out,fun i hi=>by
     by_cases e:i=j
     ·subst e;rw [cset_same HY.out,HT.out]
     ·rw [cset_other (by intro h;simp only [Addr.mk.injEq] at h;omega)];exact HCE.out i (by omega)⟩
    case measure=>simp [intOf];omega
   ·go_wp2
    go_ret
    refine ⟨ret_int (by have:=HT.out;omega),HM.out,marks_len _ _,hcap,hcm,marks_i64 h0 h1 hn,fun _=>⟨b,off,rfl,hlo,hhi,fun i hi=>⟨?_,fun _=>?_⟩⟩,fun h=>(by cases h)⟩
    ·rw [marks_ix k hi];exact HCE.out i (by omega)
    ·rw [HM.out.frz];exact HC.out.2 i hi
 ·have hn0':n≤0:=by omega
  have HI:=hid hI;clear hI
  go_enter Try.func15,Try.ntmps15
  go_wp2
  go_loopw [1,5] (fun q i wr=>i=.int .i64 0∧q=.int .i64 k∧wr=w) (fun _ i _=>n - (intOf i).toNat)
  case atStart=>exact ⟨rfl,rfl,rfl⟩
  case round =>
   obtain ⟨rfl,rfl,rfl⟩:=hrel
   go_wp2
   go_ret
   have hx:=HI.out
   obtain rfl:n=0:=by omega
   exact ⟨ret_int (by omega),Marked.refl _ _ _,rfl,hx.2.1,hx.2.2.1,(fun z hz=>by simp [marks] at hz),(fun h=>by omega),hx.2.2.2.2.2⟩
set_option maxHeartbeats 400000 in
theorem heldInts {fz:Bool} {lo hi:Nat} (a:Option Addr) (n c:Nat) (k:Int) (w:World) (hI:IntsA fz lo hi w a n c (marks k n)) (h0:0≤k) (h1:k≤4194304) (hn:n≤1048576) :
 Calls Try.prog 16 #[.slice a n c,.int .i64 k] w (Gives w (.int .i64 (k+n))):=by
 have hs:=hI.small
 go_enter Try.func16,Try.ntmps16
 go_wp2
 go_loopw [1,5] (fun q i wr=>∃ (j:Nat) (t:Int),i=.int .i64 j∧q=.int .i64 t∧t=k+j∧j≤n∧∃ m,wr=w.drewN m) (fun _ i _=>n - (intOf i).toNat)
 case atStart=>exact ⟨0,_,rfl,rfl,by omega,by omega,0,rfl⟩
 case round =>
  obtain ⟨j,t,rfl,rfl,ht,hj,m,rfl⟩:=hrel
  have ht1:0≤t:=by omega
  have ht2:t≤5242880:=by omega
  by_cases hlt:j<n
  ·obtain ⟨b,off,rfl,_,_,hc,_⟩:=hI.open (by omega)
   have c0:=hc j hlt
   rw [marks_ix k hlt,← ht] at c0
   have HT:=hid ht;clear ht hc
   have hb:(t != t)=false:=by simp
   go_wp2
   go_roundw
   case rel=>exact ⟨j+1,_,by go_num,rfl,by have:=HT.out;omega,by omega,by first | exact ⟨_,rfl⟩ | exact ⟨_,dd⟩⟩
   case measure=>simp [intOf];omega
  ·have HT:=hid ht;clear ht
   go_wp2
   go_ret
   exact ⟨ret_int (by have:=HT.out;omega),by first | exact ⟨_,rfl⟩ | exact ⟨_,dd⟩⟩
theorem CellM.slice {a:Option Addr} {n c:Nat} {v:Value} (h:CellM (.slice a n c) v):v=.slice a n c:=by
 rcases h with h | ⟨_,_,h,_⟩
 ·exact h
 ·cases h
def GivesM (lo hi:Nat) (w:World) (r:Int) (e:Ending) (w':World):Prop:=e=.returned (.int .i64 r)∧Marked lo hi w w'
set_option maxHeartbeats 800000 in
theorem markRowsB {lo hi:Nat} (a:Option Addr) (n c:Nat) (xss:List (List Int)) (k:Int) (w:World) (hI:RowsA true lo hi w a n c xss) (h0:0≤k) (h1:k≤3145728) (hn:n≤1048576) (hsum:lens xss xss.length≤1048576) :
 Calls Try.prog 52 #[.slice a n c,.int .i64 k] w (GivesM lo hi w (k+lens xss n)):=by
 have hl:=hI.len
 have hs:=hI.small
 have HL:=hid hl;clear hl
 have HS:=hid hsum;clear hsum
 go_enter Try.func52,Try.ntmps52
 go_wp2
 go_loopw [1,5] (fun q i wr=>∃ (j:Nat) (t:Int),i=.int .i64 j∧q=.int .i64 t∧t=k+lens xss j∧j≤n∧Marked lo hi w wr) (fun _ i _=>n - (intOf i).toNat)
 case atStart=>exact ⟨0,_,rfl,rfl,by simp [lens],by omega,Marked.refl _ _ _⟩
 case round =>
  obtain ⟨j,t,rfl,rfl,ht,hj,hm⟩:=hrel
  have hlj:lens xss j≤1048576:=Nat.le_trans (lens_mono (by rw [HL.out];exact hj)) HS.out
  have ht1:0≤t:=by omega
  have ht2:t≤4194304:=by omega
  have HT:=hid ht;clear ht hlj
  have HM:=hid hm;clear hm
  by_cases hlt:j<n
  ·obtain ⟨b,off,rfl⟩:=hI.some (by omega)
   obtain ⟨_,_,ra,rn,rc,hc,hr,_⟩:=hI.at hlt
   obtain ⟨v',hv,hcm⟩:=HM.out.cell _ _ hc
   obtain rfl:=hcm.slice
   obtain ⟨ys,hy⟩:=hr.marked HM.out
   have hrn:=hr.len
   have hrn2:rn≤1048576:=by have h2:=lens_row (xss:=xss) (i:=j) (k:=xss.length) (by rw [HL.out];exact hlt);have h3:=HS.out;omega
   have HR:=hid hrn
   have HY:=hid hy
   clear hc hcm hr hy hrn
   go_wp2_with fail
   refine (markInts ra rn rc ys t wr HY.out ht1 ht2 hrn2).mono ?_
   rintro e w1 ⟨rfl,hm1,_⟩
   have HM1:=hid hm1;clear hm1
   go_wp2
   go_roundw
   case rel=>exact ⟨j+1,_,by go_num,rfl,by have h1:=HT.out;have h2:=HR.out;simp only [lens];omega,by omega,HM.out.trans HM1.out⟩
   case measure=>simp [intOf];omega
  ·go_wp2
   go_ret
   obtain rfl:j=n:=by omega
   exact ⟨ret_int HT.out,HM.out⟩
end Go.Proofs.Ytlpdbkhekbdceaa
namespace Go.Proofs.Ytlpdbkhekbdceaa
set_option linter.unusedSimpArgs false
set_option linter.unusedVariables false
open Go.RowKit
structure MarkedG (lo hi:Nat) (w w':World):Prop where
 os:w'.os=w.os
 tape:w'.tape=w.tape
 output:w'.output=w.output
 size:w.heap.size≤w'.heap.size
 out:∀ k,k<w.heap.size→(k<lo∨hi≤k)→w'.heap[k]? = w.heap[k]?
 cell:∀ p v,w.cell? p=some v→∃ v',w'.cell? p=some v'∧CellM v v'
 frz:∀ p,w.cell? p ≠ none→w'.frozen? p=w.frozen? p
theorem cell_lt {w:World} {p:Addr} (h:w.cell? p ≠ none):p.block<w.heap.size:=by
 cases hc:w.cell? p with
 | none=>exact absurd hc h
 | some v=>exact World.block_lt_of_cell? w _ hc
theorem MarkedG.of_marked {lo hi:Nat} {w w':World} (h:Marked lo hi w w'):MarkedG lo hi w w' :=
 ⟨h.os,h.tape,h.output,by rw [h.size];exact Nat.le_refl _,fun k _ hk=>h.out k hk,h.cell,fun p _=>h.frz p⟩
theorem MarkedG.of_below {lo hi:Nat} {w w':World} (h:Below w.heap.size w w'):MarkedG lo hi w w':=by
 refine ⟨h.os,h.tape,h.output,h.size,fun k hk _=>h.block k hk,fun p v hp=>⟨v,?_,.inl rfl⟩,fun p hp=>?_⟩
 ·rw [h.cell (World.block_lt_of_cell? w _ hp)];exact hp
 ·rw [h.frozen (cell_lt hp)]
theorem MarkedG.trans {lo hi:Nat} {a b c:World} (h:MarkedG lo hi a b) (k:MarkedG lo hi b c):MarkedG lo hi a c:=by
 have hs:=h.size
 refine ⟨k.os.trans h.os,k.tape.trans h.tape,k.output.trans h.output,Nat.le_trans h.size k.size,fun i h1 h2=>(k.out i (by omega) h2).trans (h.out i h1 h2),fun p v hp=>?_,fun p hp=>?_⟩
 ·obtain ⟨v',g1,g2⟩:=h.cell p v hp
  obtain ⟨v'',g3,g4⟩:=k.cell p v' g1
  exact ⟨v'',g3,g2.trans g4⟩
 ·rw [k.frz p,h.frz p hp]
  cases hc:a.cell? p with
  | none=>exact absurd hc hp
  | some v=>obtain ⟨v',g1,_⟩:=h.cell p v hc;rw [g1];exact fun h=>(by cases h)
theorem MarkedG.drewN {lo hi:Nat} {a b:World} (h:MarkedG lo hi a b) (m:Nat):MarkedG lo hi a (b.drewN m):=h.trans (.of_below (below_drewN (Below.refl _ _) m))
theorem MarkedG.keeps {lo hi lo' hi':Nat} {a b:World} (h:MarkedG lo hi a b) (hd:hi'≤lo∨hi≤lo') (hs:hi'≤a.heap.size):Keeps lo' hi' a b:=fun k h1 h2=>h.out k (by omega) (by omega)
theorem MarkedG.below {lo hi B:Nat} {a b:World} (h:MarkedG lo hi a b) (h1:B≤lo) (h2:B≤a.heap.size):Below B a b:=⟨h.os,h.tape,h.output,h.size,fun k hk=>h.out k (by omega) (.inl (by omega))⟩
theorem MarkedG.wide {lo hi lo' hi':Nat} {a b:World} (h:MarkedG lo hi a b) (h1:lo'≤lo) (h2:hi≤hi'):MarkedG lo' hi' a b:=⟨h.os,h.tape,h.output,h.size,fun k hk hk'=>h.out k hk (by omega),h.cell,h.frz⟩
theorem boxG {lo hi:Nat} {w w':World} (h:MarkedG lo hi w w') {g:Nat} (o:Nat) (h1:g<w.heap.size) (h2:g<lo∨hi≤g):w'.cell? ⟨g,o,none⟩=w.cell? ⟨g,o,none⟩:=World.cell?_of_block (w:=w) (h.out g h1 h2)
def TrieA (fz:Bool) (lo hi:Nat) (w:World) (ar:Int) (a:Option Addr) (n c:Nat) (rows:List (List Int)):Prop:=I64 ar∧RowsA fz lo hi w a n c rows
theorem beInts {fz:Bool} {lo hi B:Nat} {w w':World} {a:Option Addr} {n c:Nat} {xs:List Int} (h:IntsA fz lo hi w a n c xs) (hb:Below B w w') (hh:hi≤B):IntsA fz lo hi w' a n c xs:=h.be hb hh
theorem kpInts {fz:Bool} {lo hi:Nat} {w w':World} {a:Option Addr} {n c:Nat} {xs:List Int} (h:IntsA fz lo hi w a n c xs) (hb:Keeps lo hi w w'):IntsA fz lo hi w' a n c xs:=h.keep hb
theorem wdInts {fz:Bool} {lo hi lo':Nat} {w:World} {a:Option Addr} {n c:Nat} {xs:List Int} (h:IntsA fz lo hi w a n c xs) (hl:lo'≤lo):IntsA fz lo' hi w a n c xs:=h.wide hl (Nat.le_refl _)
theorem beTrie {fz:Bool} {lo hi B:Nat} {w w':World} {ar:Int} {a:Option Addr} {n c:Nat} {rows:List (List Int)} (h:TrieA fz lo hi w ar a n c rows) (hb:Below B w w') (hh:hi≤B):TrieA fz lo hi w' ar a n c rows:=⟨h.1,SlA.be intsOK h.2 hb hh⟩
theorem kpTrie {fz:Bool} {lo hi:Nat} {w w':World} {ar:Int} {a:Option Addr} {n c:Nat} {rows:List (List Int)} (h:TrieA fz lo hi w ar a n c rows) (hb:Keeps lo hi w w'):TrieA fz lo hi w' ar a n c rows:=⟨h.1,SlA.keep intsOK h.2 hb⟩
theorem wdTrie {fz:Bool} {lo hi lo':Nat} {w:World} {ar:Int} {a:Option Addr} {n c:Nat} {rows:List (List Int)} (h:TrieA fz lo hi w ar a n c rows) (hl:lo'≤lo):TrieA fz lo' hi w ar a n c rows:=⟨h.1,SlA.wide intsOK h.2 hl (Nat.le_refl _)⟩
theorem hgInts {fz:Bool} {lo hi hi':Nat} {w:World} {a:Option Addr} {n c:Nat} {xs:List Int} (h:IntsA fz lo hi w a n c xs) (hl:hi≤hi'):IntsA fz lo hi' w a n c xs:=h.wide (Nat.le_refl _) hl
theorem hgTrie {fz:Bool} {lo hi hi':Nat} {w:World} {ar:Int} {a:Option Addr} {n c:Nat} {rows:List (List Int)} (h:TrieA fz lo hi w ar a n c rows) (hl:hi≤hi'):TrieA fz lo hi' w ar a n c rows:=⟨h.1,SlA.wide intsOK h.2 (Nat.le_refl _) hl⟩
theorem rdTrie {fz:Bool} {lo hi:Nat} {w:World} {ar:Int} {a:Option Addr} {n c:Nat} {rows:List (List Int)} (h:TrieA fz lo hi w ar a n c rows):TrieA false lo hi w ar a n c rows:=⟨h.1,SlA.read intsOK h.2⟩
theorem szK_Ints {fz:Bool} {lo hi:Nat} (a:Option Addr) (n c:Nat) (xs:List Int) (left:Int) (w:World) (hI:IntsA fz lo hi w a n c xs) (h0:0≤left) (h1:left≤1048576) :
 Calls Try.prog 19 #[.slice a n c,.int .i64 left] w (Gives w (.int .i64 (szI xs.length left))):=by rw [hI.len];exact szInts a n c xs left w hI h0 h1
theorem szSet (w:World) (a:Addr) (v:Value):(w.setCell a v).heap.size=w.heap.size:=by simp [World.setCell]
theorem fset {w:World} {a b:Addr} {v:Value}:(w.setCell a v).frozen? b=w.frozen? b:=by simp
def GvInts (w:World) (xs:List Int) (e:Ending) (w':World):Prop:=∃ a n c,e=.returned (.slice a n c)∧IntsA true w.heap.size w'.heap.size w' a n c xs∧Below w.heap.size w w'
def GvTrie (w:World) (ar:Int) (rows:List (List Int)) (e:Ending) (w':World):Prop:=∃ a n c,e=.returned (trieV ar a n c)∧TrieA true w.heap.size w'.heap.size w' ar a n c rows∧Below w.heap.size w w'
theorem GivesOwn.gv {w:World} {xs:List Int} {e:Ending} {w':World} (h:GivesOwn w xs e w'):GvInts w xs e w':=by
 obtain ⟨a,n,c,h1,h2,h3⟩:=h;exact ⟨a,n,c,h1,h2.ints,h3⟩
theorem toK_Ints {lo hi:Nat} (a:Option Addr) (n c:Nat) (xs:List Int) (w:World) (hI:IntsA false lo hi w a n c xs) (hh:hi≤w.heap.size) (hs:xs.length≤1048576) :
 Calls Try.prog 24 #[.slice a n c] w (GvInts w xs):=(toInts a n c xs w hI hh (by rw [← hI.len];exact hs)).mono fun _ _ h=>h.gv
theorem eqK_Ints {fz fz':Bool} {lo hi lo' hi':Nat} (a a':Option Addr) (n c n' c':Nat) (xs:List Int) (w:World) (hI:IntsA fz lo hi w a n c xs) (hJ:IntsA fz' lo' hi' w a' n' c' xs) :
 Calls Try.prog 10 #[.slice a n c,.slice a' n' c'] w (Gives w (.bool true)):=by have:=eqInts a a' n c n' c' xs xs w hI hJ;rwa [eqL_refl] at this
def GvMarkInts (lo hi:Nat) (w:World) (k:Int) (a:Option Addr) (n c:Nat) (len:Nat) (e:Ending) (w':World):Prop:=e=.returned (.int .i64 (k+len))∧MarkedG lo hi w w'∧IntsA true lo hi w' a n c (marks k len)
theorem resK_Ints {lo hi:Nat} (a:Option Addr) (n c:Nat) (xs:List Int) (k:Int) (w:World) (hI:IntsA true lo hi w a n c xs) (h0:0≤k) (h1:k≤4194304) (hs:xs.length≤1048576) :
 Calls Try.prog 15 #[.slice a n c,.int .i64 k] w (GvMarkInts lo hi w k a n c xs.length):=(markInts a n c xs k w hI h0 h1 (by rw [← hI.len];exact hs)).mono fun _ _ h=>⟨by rw [hI.len];exact h.1,.of_marked h.2.1,by rw [hI.len];exact h.2.2⟩
theorem heldK_Ints {fz:Bool} {lo hi:Nat} (a:Option Addr) (n c:Nat) (len:Nat) (k:Int) (w:World) (hI:IntsA fz lo hi w a n c (marks k len)) (h0:0≤k) (h1:k≤4194304) (hs:len≤1048576) :
 Calls Try.prog 16 #[.slice a n c,.int .i64 k] w (Gives w (.int .i64 (k+len))):=by
 have h2:n=len:=by rw [← hI.len,marks_len]
 subst h2;exact heldInts a n c k w hI h0 h1 hs
end Go.Proofs.Ytlpdbkhekbdceaa
namespace Go.Proofs.Ytlpdbkhekbdceaa
set_option linter.unusedSimpArgs false
set_option linter.unusedVariables false
open Go.RowKit
structure AtomD where
 nm:ByteArray
 vs:List Int
def atomR:Rep AtomD:=fun fz lo hi w cs x=>∃ a n c,cs=[.string x.nm,.slice a n c]∧x.nm.size≤9223372036854775807∧IntsA fz lo hi w a n c x.vs
theorem atomOK:RepOK atomR :=
 ⟨fun ⟨a,n,c,h1,h2,h3⟩ hk=>⟨a,n,c,h1,h2,h3.keep hk⟩,fun ⟨a,n,c,h1,h2,h3⟩ g1 g2=>⟨a,n,c,h1,h2,h3.wide g1 g2⟩,fun ⟨a,n,c,h1,h2,h3⟩=>⟨a,n,c,h1,h2,h3.read⟩⟩
abbrev AtomsA:=SlA 2 atomR
def ax (xs:List AtomD) (i:Nat):AtomD:=xs.getD i ⟨⟨#[]⟩,[]⟩
theorem ax_lt {xs:List AtomD} {i:Nat} (h:i<xs.length):ax xs i=xs[i]:=by simp [ax,h]
theorem atomsSome {fz:Bool} {lo hi:Nat} {w:World} {a:Option Addr} {n c:Nat} {xs:List AtomD} (h:AtomsA fz lo hi w a n c xs) (hn:0<n):∃ b off,a=some ⟨b,off,none⟩:=by
 obtain ⟨b,off,ha,_⟩:=h.open hn
 exact ⟨b,off,ha⟩
theorem atomsAt {fz:Bool} {lo hi:Nat} {w:World} {b off n c:Nat} {xs:List AtomD} (h:AtomsA fz lo hi w (some ⟨b,off,none⟩) n c xs) {i:Nat} (hi':i<n) :
 lo≤b∧b<hi∧(ax xs i).nm.size≤9223372036854775807∧∃ ra rn rc,w.cell? ⟨b,off+i*2,none⟩=some (.string (ax xs i).nm)∧w.cell? ⟨b,off+i*2+1,none⟩=some (.slice ra rn rc)∧IntsA fz lo hi w ra rn rc (ax xs i).vs ∧
  (fz=true→w.frozen? ⟨b,off+i*2,none⟩=false∧w.frozen? ⟨b,off+i*2+1,none⟩=false):=by
 obtain ⟨b',off',ha,hl,hb,hc⟩:=h.open (by omega)
 simp only [Option.some.injEq,Addr.mk.injEq,and_true] at ha
 obtain ⟨rfl,rfl⟩:=ha
 obtain ⟨cs,x,g1,g2,⟨ra,rn,rc,rfl,g3,g5⟩,g4⟩:=hc i hi'
 have k0:=g4 0 (by omega)
 have k1:=g4 1 (by omega)
 have hx:ax xs i=x:=by simp [ax,g2]
 rw [hx]
 exact ⟨hl,hb,g3,ra,rn,rc,by simpa using k0.1,by simpa using k1.1,g5,fun hf=>⟨by simpa using k0.2 hf,by simpa using k1.2 hf⟩⟩
def atomLens (xs:List AtomD):Nat→Nat
 | 0=>0
 | k+1=>atomLens xs k+((ax xs k).nm.size+(ax xs k).vs.length)
def atomsSz (xs:List AtomD):Nat:=xs.length+atomLens xs xs.length
theorem atomLens_mono {xs:List AtomD} {i k:Nat} (h:i≤k):atomLens xs i≤atomLens xs k:=by
 induction k with
 | zero =>obtain rfl:i=0:=by omega
          exact Nat.le_refl _
 | succ k ih =>
  by_cases e:i=k+1
  ·subst e;exact Nat.le_refl _
  ·have:=ih (by omega);simp only [atomLens];omega
theorem atomsSz_at {xs:List AtomD} {B i:Nat} (h:atomsSz xs≤B) (hi:i<xs.length):(ax xs i).nm.size+(ax xs i).vs.length≤B:=by
 have:=atomLens_mono (xs:=xs) (i:=i+1) (k:=xs.length) (by omega)
 unfold atomsSz at h;simp only [atomLens] at this;omega
abbrev atomV (s:ByteArray) (a:Option Addr) (n c:Nat):Value:=.agg #[.string s,.slice a n c]
set_option maxHeartbeats 800000 in
theorem szAtom1 {fz:Bool} {lo hi:Nat} (s:ByteArray) (a:Option Addr) (n c:Nat) (xs:List Int) (left:Int) (w:World) (hI:IntsA fz lo hi w a n c xs) (hh:hi≤w.heap.size) (hs:s.size≤9223372036854775807) (h0:0≤left) (h1:left≤1048576) :
 Calls Try.prog 32 #[atomV s a n c,.int .i64 left] w (Leaves w (.int .i64 (szI (s.size+xs.length) left))):=by
 by_cases hle:(s.size:Int)≤left
 ·obtain ⟨t,ht⟩:∃ t,t=left - s.size:=⟨_,rfl⟩
  have ht0:0≤t:=by omega
  have ht1:t≤1048576:=by omega
  by_cases hle2:(xs.length:Int)≤t
  ·obtain ⟨u,hu⟩:∃ u,u=t - xs.length:=⟨_,rfl⟩
   have hu0:0≤u:=by omega
   have HS:=hid (szI_yes hle2)
   have HE:Hid (szI (s.size+xs.length) left=u):=hid (by rw [szI_yes (by omega)];omega)
   have HU:=hid (And.intro hle2 (And.intro hu ht));clear hle2 hu
   go_enter Try.func32,Try.ntmps32
   go_wp2_with fail
   rw [← ht]
   refine (szK_Ints a n c xs t _ (beInts (B:=w.heap.size) hI belA hh) ht0 ht1).mono ?_
   rintro e w1 ⟨rfl,m1,rfl⟩
   rw [HS.out,← HU.out.2.1]
   clear ht
   go_wp2_with fail
   go_ret
   exact ⟨by rw [HE.out];rfl,belA⟩
  ·have HS:=hid (szI_no hle2)
   have HE:Hid (szI (s.size+xs.length) left = -1):=hid (by rw [szI_no (by omega)])
   have HU:=hid hle2;clear hle2
   go_enter Try.func32,Try.ntmps32
   go_wp2_with fail
   rw [← ht]
   refine (szK_Ints a n c xs t _ (beInts (B:=w.heap.size) hI belA hh) ht0 ht1).mono ?_
   rintro e w1 ⟨rfl,m1,rfl⟩
   rw [HS.out]
   clear ht
   go_wp2_with fail
   go_ret
   exact ⟨by rw [HE.out];rfl,belA⟩
 ·have HE:Hid (szI (s.size+xs.length) left = -1):=hid (by rw [szI_no (by omega)])
  go_enter Try.func32,Try.ntmps32
  go_wp2_with fail
  go_ret
  exact ⟨by rw [HE.out];rfl,belA⟩
set_option maxHeartbeats 800000 in
theorem eqAtom1 {fz fz':Bool} {lo hi lo' hi':Nat} (s:ByteArray) (a a':Option Addr) (n c n' c':Nat) (xs:List Int) (w:World) (hI:IntsA fz lo hi w a n c xs) (hh:hi≤w.heap.size) (hJ:IntsA fz' lo' hi' w a' n' c' xs) (hh':hi'≤w.heap.size) :
 Calls Try.prog 50 #[atomV s a n c,atomV s a' n' c'] w (Leaves w (.bool true)):=by
 go_enter Try.func50,Try.ntmps50
 go_wp2_with fail
 refine (eqK_Ints a a' n c n' c' xs _ (beInts (B:=w.heap.size) hI belA hh) (beInts (B:=w.heap.size) hJ belA hh')).mono ?_
 rintro e w1 ⟨rfl,m1,rfl⟩
 go_wp2_with fail
 go_ret
 exact ⟨rfl,belA⟩
def GvAtom (w:World) (s:ByteArray) (xs:List Int) (e:Ending) (w':World):Prop:=∃ a n c,e=.returned (atomV s a n c)∧IntsA true w.heap.size w'.heap.size w' a n c xs∧Below w.heap.size w w'
set_option maxHeartbeats 800000 in
theorem toAtom1 {lo hi:Nat} (s:ByteArray) (a:Option Addr) (n c:Nat) (xs:List Int) (w:World) (hI:IntsA false lo hi w a n c xs) (hh:hi≤w.heap.size) (hn:xs.length≤1048576) :
 Calls Try.prog 40 #[atomV s a n c] w (GvAtom w s xs):=by
 go_enter Try.func40,Try.ntmps40
 go_wp2_with fail
 refine (toK_Ints a n c xs _ (beInts (B:=w.heap.size) hI belA hh) leA hn).mono ?_
 rintro e w1 ⟨a1,n1,c1,rfl,ho1,hb1⟩
 have hz:=hb1.size
 simp at hz
 have hb2:Below w.heap.size w w1:=Below.trans belA (hb1.mono leA)
 have q0:w1.cell? ⟨w.heap.size+1,0,none⟩=some (.string ⟨#[]⟩):=(by rw [(bcell hb1).1 _ _ (by first | omega | (simp;done) | (simp;omega))];first | with_reducible assumption | (go_simp;done) | assumption | (simp [World.cell?];done))
 have q1:w1.cell? ⟨w.heap.size+1,1,none⟩=some (.slice none 0 0):=(by rw [(bcell hb1).1 _ _ (by first | omega | (simp;done) | (simp;omega))];first | with_reducible assumption | (go_simp;done) | assumption | (simp [World.cell?];done))
 have q2:w1.frozen? ⟨w.heap.size+1,0,none⟩=false:=(by rw [(bcell hb1).2 _ _ (by first | omega | (simp;done) | (simp;omega))];first | with_reducible assumption | (go_simp;done) | assumption | (simp [World.frozen?];done))
 have q3:w1.frozen? ⟨w.heap.size+1,1,none⟩=false:=(by rw [(bcell hb1).2 _ _ (by first | omega | (simp;done) | (simp;omega))];first | with_reducible assumption | (go_simp;done) | assumption | (simp [World.frozen?];done))
 have r0:w1.cell? ⟨w.heap.size+1+1,0,none⟩=some (.string s):=(by rw [(bcell hb1).1 _ _ (by first | omega | (simp;done) | (simp;omega))];first | with_reducible assumption | (go_simp;done) | assumption | (simp [World.cell?];done))
 have r1:w1.cell? ⟨w.heap.size+1+1,1,none⟩=some (.slice none 0 0):=(by rw [(bcell hb1).1 _ _ (by first | omega | (simp;done) | (simp;omega))];first | with_reducible assumption | (go_simp;done) | assumption | (simp [World.cell?];done))
 have r2:w1.frozen? ⟨w.heap.size+1+1,0,none⟩=false:=(by rw [(bcell hb1).2 _ _ (by first | omega | (simp;done) | (simp;omega))];first | with_reducible assumption | (go_simp;done) | assumption | (simp [World.frozen?];done))
 have r3:w1.frozen? ⟨w.heap.size+1+1,1,none⟩=false:=(by rw [(bcell hb1).2 _ _ (by first | omega | (simp;done) | (simp;omega))];first | with_reducible assumption | (go_simp;done) | assumption | (simp [World.frozen?];done))
 have HO:=hid ho1;clear ho1
 have HB:=hid (And.intro hb1 hb2);clear hb1 hb2
 go_wp2_with fail
 refine bodyPost_ret (v:=atomV s a1 n1 c1) ?_ rfl ⟨_,_,_,rfl,?_,?_⟩
 ·simp [results,Try.results40,go_sem,q0,q1]
 ·have h1:IntsA true (w.heap.size+1+1+1) w1.heap.size w1 a1 n1 c1 xs:=by simpa using HO.out
  exact hgInts (wdInts (kpInts h1 (Keeps.sc (Keeps.sc (Keeps.sc (Keeps.refl _ _ _) (.inl (by omega)) _) (.inl (by omega)) _) (.inl (by omega)) _)) (by omega)) (by simp only [szSet];omega)
 ·exact Below.trans HB.out.2 (Below.setCell (Below.setCell (Below.setCell (Below.refl _ _) (by dsimp only;omega) _) (by dsimp only;omega) _) (by dsimp only;omega) _)
def AtomA (fz:Bool) (lo hi:Nat) (w:World) (s:ByteArray) (a:Option Addr) (n c:Nat) (xs:List Int):Prop:=s.size≤9223372036854775807∧IntsA fz lo hi w a n c xs
def szAtomD (s:ByteArray) (xs:List Int):Nat:=s.size+xs.length
section
variable {fz:Bool} {lo hi B lo':Nat} {w w':World} {s:ByteArray} {a:Option Addr} {n c:Nat} {xs:List Int}
end
def GvAtomK (w:World) (s:ByteArray) (xs:List Int) (e:Ending) (w':World):Prop:=∃ a n c,e=.returned (atomV s a n c)∧AtomA true w.heap.size w'.heap.size w' s a n c xs∧Below w.heap.size w w'
theorem toK_Atom {lo hi:Nat} (s:ByteArray) (a:Option Addr) (n c:Nat) (xs:List Int) (w:World) (hI:AtomA false lo hi w s a n c xs) (hh:hi≤w.heap.size) (hs:szAtomD s xs≤1048576) :
 Calls Try.prog 40 #[atomV s a n c] w (GvAtomK w s xs):=(toAtom1 s a n c xs w hI.2 hh (by unfold szAtomD at hs;omega)).mono fun _ _ ⟨a',n',c',h1,h2,h3⟩=>⟨a',n',c',h1,⟨hI.1,h2⟩,h3⟩
theorem szK_Atom {fz:Bool} {lo hi:Nat} (s:ByteArray) (a:Option Addr) (n c:Nat) (xs:List Int) (left:Int) (w:World) (hI:AtomA fz lo hi w s a n c xs) (hh:hi≤w.heap.size) (h0:0≤left) (h1:left≤1048576) :
 Calls Try.prog 32 #[atomV s a n c,.int .i64 left] w (Leaves w (.int .i64 (szI (szAtomD s xs) left))):=szAtom1 s a n c xs left w hI.2 hh hI.1 h0 h1
end Go.Proofs.Ytlpdbkhekbdceaa
namespace Go.Proofs.Ytlpdbkhekbdceaa
set_option linter.unusedSimpArgs false
set_option linter.unusedVariables false
open Go.RowKit
def Later (B:Nat) (w0:World):Type:={w':World // Below B w0 w'}
def Later.w {B:Nat} {w0:World} (x:Later B w0):World:=x.1
theorem Later.be {B:Nat} {w0:World} (x:Later B w0):Below B w0 x.w:=x.2
instance (B:Nat) (w0:World):Nonempty (Later B w0):=⟨⟨w0,Below.refl B w0⟩⟩
theorem below_drew1 {B:Nat} {a w:World} (h:Below B a w):Below B a w.drew:=⟨h.os,h.tape,h.output,h.size,h.block⟩
theorem wp_region_later {B:Nat} {w0:World} {id:Nat} {Q:Exit→Act→World→Prop} {a:Act} {w:World} {l:List Oper} (hm:Try.prog.follows .mixedOrders=true) (hB:Region.lexB .any l.toArray=true) (hw:Below B w0 w)
 (h:wpQuiet Try.prog l.toArray (fun w'=>∃ n:Later B w0,w'=n.w) (fun a'=>∀ w',(∃ n:Later B w0,w'=n.w)→Q .normal a' w') l a):(Code.region id l.toArray true).wp Try.prog Q a w:=wp_region_quiet (C:=fun w'=>∃ n:Later B w0,w'=n.w) hm hB ⟨⟨w.drew,below_drew1 hw⟩,rfl⟩ (by simpa using h)
theorem later_of {B:Nat} {w0:World} {f:FuncId} {args:Array Value} {v:Value} (n:Later B w0) (hB:B≤w0.heap.size) (h:Calls Try.prog f args n.w (Leaves n.w v)) :
 Calls Try.prog f args n.w fun e w''=>e=.returned v∧∃ m:Later B w0,w''=m.w:=h.mono fun _ w'' ⟨he,hb⟩=>⟨he,⟨w'',n.be.trans (hb.mono (Nat.le_trans hB n.be.size))⟩,rfl⟩
theorem Later.cell {B:Nat} {w0:World} {b o:Nat} {v:Value} (h:w0.cell? ⟨b,o,none⟩=some v) (hb:b<B) (x:Later B w0):x.w.cell? ⟨b,o,none⟩=some v:=by
 rw [x.be.cell (p:=⟨b,o,none⟩) hb];exact h
theorem Later.size {B:Nat} {w0:World} (x:Later B w0):w0.heap.size≤x.w.heap.size:=x.be.size
end Go.Proofs.Ytlpdbkhekbdceaa
