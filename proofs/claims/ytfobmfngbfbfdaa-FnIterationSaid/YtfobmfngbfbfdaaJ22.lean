/- Lemmas for the proof of FnIteration, part 22 of 24: no condition of their own. -/
import Derived.Test.YtfobmfngbfbfdaaJ21
import Derived.Test.YtfobmfngbfbfdaaJ17
import Derived.Test.YtfobmfngbfbfdaaJ1
import Derived.Test.YtfobmfngbfbfdaaJ9
import Derived.Test.YtfobmfngbfbfdaaJ4
import Derived.Test.YtfobmfngbfbfdaaJ2
import Derived.Test.YtfobmfngbfbfdaaJ8
import Derived.Test.YtfobmfngbfbfdaaJ11
import Derived.ProofKit
import Derived.OpenShut
import Derived.ShutString
import Derived.ChangeOld
import Derived.Below
import Derived.Deep.Slices
import Derived.Test.YtfobmfngbfbfdaaJ16
import Derived.ChangeSame
namespace Go.Proofs.Ytfobmfngbfbfdaa
set_option linter.unusedSimpArgs false
set_option linter.unusedVariables false
open Go.RowKit
set_option maxHeartbeats 3200000 in
theorem specRange {fz fz':Bool} {lo hi lo' hi':Nat} (ar:Int) (a:Option Addr) (n c:Nat) (rows:List (List Int)) (pa:Option Addr) (pn pc:Nat) (p:List Int) (w:World) (hI:RowsA fz lo hi w a n c rows) (hh:hi≤w.heap.size) (har:I64 ar)
 (hP:IntsA fz' lo' hi' w pa pn pc p) (hh':hi'≤w.heap.size) :
 Calls Try.prog 41 #[trieV ar a n c,.slice pa pn pc] w (Leaves w (twoV (rangeLo ar rows p) (rangeHi ar rows p))):=by
 have HAR:=hid har;clear har
 have hl:=hI.len
 have hs:=hI.small
 have hlp:=hP.len
 have hsp:=hP.small
 have HL:=hid (And.intro hl hlp);clear hl hlp
 by_cases hle:(pn:Int)≤ar
 ·obtain ⟨vb,hvb⟩:∃ vb,validR ar rows=vb:=⟨_,rfl⟩
  have HVB:=hid hvb;clear hvb
  cases vb with
  | false =>
   have HF:=hid (range_no (p:=p) (preOK_val HVB.out))
   go_enter Try.func41,Try.ntmps41
   go_wp2_with fail
   refine (specValidTrie ar a n c rows _ (hI.al intsOK hh _) leA HAR.out).mono ?_
   rintro e w1 ⟨rfl,hb1⟩
   rw [HVB.out]
   go_wp2_with fail
   go_ret2
   exact ⟨by rw [HF.out.1,HF.out.2];rfl,(Below.al (Below.refl _ _) (Nat.le_refl _) _).trans (hb1.mono leA)⟩
  | true =>
   have HV:=hid (validR_out HVB.out)
   have HF:=hid (range_yes (p:=p) (preOK_mk HVB.out (by rw [HL.out.2];exact hle)))
   go_enter Try.func41,Try.ntmps41
   go_wp2_with fail
   refine (specValidTrie ar a n c rows _ (hI.al intsOK hh _) leA HAR.out).mono ?_
   rintro e w1 ⟨rfl,hb1⟩
   rw [HVB.out]
   have hc0:w1.cell? ⟨w.heap.size,0,none⟩=some (.int .i64 ar):=by rw [(bcell hb1).1 _ _ (by simp)];simp
   have hc1:w1.cell? ⟨w.heap.size,1,none⟩=some (.slice a n c):=by rw [(bcell hb1).1 _ _ (by simp)];simp
   have hb2:Below w.heap.size w w1:=(Below.al (Below.refl _ _) (Nat.le_refl _) _).trans (hb1.mono leA)
   have hI1:=hI.be intsOK hb2 hh
   have hP1:=hP.be hb2 hh'
   have HB:=hid (And.intro hb2 (And.intro hI1 hP1));clear hb1 hI1 hP1 hb2
   go_upto_block 0 with fail
   go_cut [6] from 18 to 37 (fun s7 wx=>∃ k:Nat,s7=.int .i64 k∧k≤n∧Hid (preLo rows p=k)∧Hid (∃ m,wx=w1.drewN m))
   case first =>
    go_wp2_with fail
    go_loopw [6] (fun i wr=>∃ k:Nat,i=.int .i64 k∧k≤n∧Hid (∀ i,i<k→cmpP rows p i<0)∧Hid (∃ m,wr=w1.drewN m)) (fun i _=>n - (intOf i).toNat)
    case atStart=>exact ⟨0,rfl,by omega,hid (fun i hi=>by omega),hid ⟨0,rfl⟩⟩
    case round =>
     obtain ⟨k,rfl,hk,HT,HD⟩:=hrel
     have hc1r:wr.cell? ⟨w.heap.size,1,none⟩=some (.slice a n c):=by obtain ⟨m,rfl⟩:=HD.out;exact hc1
     by_cases hlt:k<n
     ·have hIr:RowsA fz lo hi wr a n c rows:=HB.out.2.1.keep intsOK (keeps_dr lo hi HD.out)
      have hPr:IntsA fz' lo' hi' wr pa pn pc p:=HB.out.2.2.keep (keeps_dr lo' hi' HD.out)
      obtain ⟨b,off,rfl⟩:=hI.some (by omega)
      obtain ⟨_,_,ra,rn,rc,hc,hr,_⟩:=hIr.at hlt
      have hrs:=hr.small
      have hrc:=hr.2.1
      have hrm:=hr.2.2.1
      have hrp:pn≤rn:=by have h1:=(HV.out.2.2 k (by rw [HL.out.1];exact hlt)).1;have h2:=hr.len;omega
      have HR:=hid (hr.take hrp);clear hr
      have HPR:=hid hPr;clear hPr
      have HIR:=hid hIr;clear hIr
      obtain ⟨d,hde⟩:∃ d,cmpP rows p k=d:=⟨_,rfl⟩
      have hde2:=hde
      unfold cmpP at hde2
      rw [HL.out.2] at hde2
      have HDE:=hid (And.intro hde hde2);clear hde hde2
      have HI:=hid hI;clear hI
      by_cases hd0:d<0
      ·go_wp2_with fail
       refine (specCmpR ra pa pn rc pn pc _ _ _ HR.out HPR.out).mono ?_
       rintro e w3 ⟨rfl,m3,rfl⟩
       rw [HDE.out.2]
       have HT2:Hid (∀ i,i<k+1→cmpP rows p i<0):=hid (fun i hi=>by
        by_cases e:i=k
        ·subst e;rw [HDE.out.1];exact hd0
        ·exact HT.out i (by omega))
       go_wp2_with fail
       go_roundw
       case rel=>exact ⟨k+1,by go_num,by omega,HT2,hid (by first | exact HD.out | exact dr_more HD.out _ | (rw [dd];exact dr_more HD.out _) | (rw [dd,dd];exact dr_more HD.out _) | exact ⟨_,rfl⟩ | exact ⟨_,dd⟩)⟩
       case measure=>simp [intOf];omega
      ·go_wp2_with fail
       refine (specCmpR ra pa pn rc pn pc _ _ _ HR.out HPR.out).mono ?_
       rintro e w3 ⟨rfl,m3,rfl⟩
       rw [HDE.out.2]
       have HK:=hid (preLo_eq (k:=k) HT.out (by rw [HL.out.1];exact hk) (fun _=>by rw [HDE.out.1];omega))
       go_wp2_with fail
       go_meet
       exact ⟨k,rfl,hk,HK,hid (by first | exact HD.out | exact dr_more HD.out _ | (rw [dd];exact dr_more HD.out _) | (rw [dd,dd];exact dr_more HD.out _) | exact ⟨_,rfl⟩ | exact ⟨_,dd⟩)⟩
     ·have HK:=hid (preLo_eq (k:=k) HT.out (by rw [HL.out.1];exact hk) (fun h=>by rw [HL.out.1] at h;omega))
      go_wp2_with fail
      go_meet
      exact ⟨k,rfl,hk,HK,hid (by first | exact HD.out | exact dr_more HD.out _ | (rw [dd];exact dr_more HD.out _) | (rw [dd,dd];exact dr_more HD.out _) | exact ⟨_,rfl⟩ | exact ⟨_,dd⟩)⟩
   case rest =>
    obtain ⟨k0,rfl,hk0,HK0,HD0⟩:=hcut
    have hc1':wc.cell? ⟨w.heap.size,1,none⟩=some (.slice a n c):=by obtain ⟨m,rfl⟩:=HD0.out;exact hc1
    go_wp2_with fail
    go_loopw [7] (fun i wr=>∃ k:Nat,i=.int .i64 k∧k≤n∧k0≤k∧Hid (∀ i,k0≤i→i<k→cmpP rows p i=0)∧Hid (∃ m,wr=w1.drewN m)) (fun i _=>n - (intOf i).toNat)
    case atStart=>exact ⟨k0,rfl,by omega,by omega,hid (fun i hi hi'=>by omega),HD0⟩
    case round =>
     obtain ⟨k,rfl,hk,hkk,HT,HD⟩:=hrel
     have hc1r:wr.cell? ⟨w.heap.size,1,none⟩=some (.slice a n c):=by obtain ⟨m,rfl⟩:=HD.out;exact hc1
     have hbr:∀ q,Below w.heap.size w (wr.drewN q):=by obtain ⟨m,rfl⟩:=HD.out;intro q;exact below_drewN (below_drewN HB.out.1 m) q
     have HBR:=hid hbr;clear hbr
     by_cases hlt:k<n
     ·have hIr:RowsA fz lo hi wr a n c rows:=HB.out.2.1.keep intsOK (keeps_dr lo hi HD.out)
      have hPr:IntsA fz' lo' hi' wr pa pn pc p:=HB.out.2.2.keep (keeps_dr lo' hi' HD.out)
      obtain ⟨b,off,rfl⟩:=hI.some (by omega)
      obtain ⟨_,_,ra,rn,rc,hc,hr,_⟩:=hIr.at hlt
      have hrs:=hr.small
      have hrc:=hr.2.1
      have hrm:=hr.2.2.1
      have hrp:pn≤rn:=by have h1:=(HV.out.2.2 k (by rw [HL.out.1];exact hlt)).1;have h2:=hr.len;omega
      have HR:=hid (hr.take hrp);clear hr
      have HPR:=hid hPr;clear hPr
      have HIR:=hid hIr;clear hIr
      obtain ⟨d,hde⟩:∃ d,cmpP rows p k=d:=⟨_,rfl⟩
      have hde2:=hde
      unfold cmpP at hde2
      rw [HL.out.2] at hde2
      have HDE:=hid (And.intro hde hde2);clear hde hde2
      have HI:=hid hI;clear hI
      by_cases hd0:d=0
      ·have hb:(d == 0)=true:=by simp [hd0]
       have HD0':=hid hd0;clear hd0
       go_wp2_with fail
       refine (specCmpR ra pa pn rc pn pc _ _ _ HR.out HPR.out).mono ?_
       rintro e w3 ⟨rfl,m3,rfl⟩
       rw [HDE.out.2]
       have HT2:Hid (∀ i,k0≤i→i<k+1→cmpP rows p i=0):=hid (fun i hi0 hi=>by
        by_cases e:i=k
        ·subst e;rw [HDE.out.1];exact HD0'.out
        ·exact HT.out i hi0 (by omega))
       go_wp2_with fail
       go_roundw
       case rel=>exact ⟨k+1,by go_num,by omega,by omega,HT2,hid (by first | exact HD.out | exact dr_more HD.out _ | (rw [dd];exact dr_more HD.out _) | (rw [dd,dd];exact dr_more HD.out _) | exact ⟨_,rfl⟩ | exact ⟨_,dd⟩)⟩
       case measure=>simp [intOf];omega
      ·have hb:(d == 0)=false:=by simp [hd0]
       have HK:=hid (preHi_eq (k:=k) (by rw [HK0.out];exact hkk) (by rw [HK0.out];exact HT.out) (by rw [HL.out.1];exact hk) (fun _=>by rw [HDE.out.1];omega))
       have HD0':=hid hd0;clear hd0
       go_wp2_with fail
       refine (specCmpR ra pa pn rc pn pc _ _ _ HR.out HPR.out).mono ?_
       rintro e w3 ⟨rfl,m3,rfl⟩
       rw [HDE.out.2]
       go_wp2_with fail
       go_ret2
       exact ⟨by rw [HF.out.1,HF.out.2,HK.out,HK0.out];rfl,HBR.out _⟩
     ·have HK:=hid (preHi_eq (k:=k) (by rw [HK0.out];exact hkk) (by rw [HK0.out];exact HT.out) (by rw [HL.out.1];exact hk) (fun h=>by rw [HL.out.1] at h;omega))
      go_wp2_with fail
      go_ret2
      exact ⟨by rw [HF.out.1,HF.out.2,HK.out,HK0.out];rfl,HBR.out 0⟩
 ·have HF:=hid (range_no (rows:=rows) (preOK_len (ar:=ar) (p:=p) (by rw [HL.out.2];exact hle)))
  obtain ⟨vb,hvb⟩:∃ vb,validR ar rows=vb:=⟨_,rfl⟩
  have HVB:=hid hvb;clear hvb
  cases vb with
  | false =>
   go_enter Try.func41,Try.ntmps41
   go_wp2_with fail
   refine (specValidTrie ar a n c rows _ (hI.al intsOK hh _) leA HAR.out).mono ?_
   rintro e w1 ⟨rfl,hb1⟩
   rw [HVB.out]
   go_wp2_with fail
   go_ret2
   exact ⟨by rw [HF.out.1,HF.out.2];rfl,(Below.al (Below.refl _ _) (Nat.le_refl _) _).trans (hb1.mono leA)⟩
  | true =>
   go_enter Try.func41,Try.ntmps41
   go_wp2_with fail
   refine (specValidTrie ar a n c rows _ (hI.al intsOK hh _) leA HAR.out).mono ?_
   rintro e w1 ⟨rfl,hb1⟩
   rw [HVB.out]
   have hc0:w1.cell? ⟨w.heap.size,0,none⟩=some (.int .i64 ar):=by rw [(bcell hb1).1 _ _ (by simp)];simp
   have hb2:=(Below.al (Below.refl w.heap.size w) (Nat.le_refl _) _).trans (hb1.mono leA)
   have HB:=hid hb2;clear hb2 hb1
   go_wp2_with fail
   go_ret2
   exact ⟨by rw [HF.out.1,HF.out.2];rfl,HB.out⟩
end Go.Proofs.Ytfobmfngbfbfdaa
namespace Go.Proofs.Ytfobmfngbfbfdaa
set_option linter.unusedSimpArgs false
set_option linter.unusedVariables false
open Go.RowKit
theorem rangeLo_le (ar:Int) (rows:List (List Int)) (p:List Int):rangeLo ar rows p≤rows.length:=by
 unfold rangeLo;split
 ·exact preLo_le _ _
 ·exact Nat.zero_le _
theorem rangeHi_le (ar:Int) (rows:List (List Int)) (p:List Int):rangeHi ar rows p≤rows.length:=by
 unfold rangeHi;split
 ·exact firstIx_le _ _
 ·exact Nat.zero_le _
noncomputable def countF (ar:Int) (rows:List (List Int)) (p:List Int):Int:=(rangeHi ar rows p:Int) - rangeLo ar rows p
end Go.Proofs.Ytfobmfngbfbfdaa
namespace Go.Proofs.Ytfobmfngbfbfdaa
set_option linter.unusedSimpArgs false
set_option linter.unusedVariables false
open Go.RowKit
theorem firstIx_sp (p:Nat→Prop) (n:Nat):(firstIx p n<n→p (firstIx p n))∧∀ j,j<firstIx p n→¬ p j:=by
 induction n with
 | zero=>exact ⟨fun h=>by simp [firstIx] at h,fun j hj=>by simp [firstIx] at hj⟩
 | succ n ih =>
  by_cases h1:firstIx p n<n
  ·have e:firstIx p (n+1)=firstIx p n:=by simp only [firstIx];rw [if_pos h1]
   rw [e];exact ⟨fun _=>ih.1 h1,ih.2⟩
  ·have h0:=firstIx_le p n
   have hn:firstIx p n=n:=by omega
   rw [hn] at ih
   by_cases h2:p n
   ·have e:firstIx p (n+1)=n:=by simp only [firstIx];rw [if_neg h1,if_pos h2]
    rw [e];exact ⟨fun _=>h2,ih.2⟩
   ·have e:firstIx p (n+1)=n+1:=by simp only [firstIx];rw [if_neg h1,if_neg h2]
    rw [e];exact ⟨fun h=>by omega,fun j hj=>by
     by_cases ej:j=n
     ·subst ej;exact h2
     ·exact ih.2 j (by omega)⟩
def chTo (f:Nat→Int):Nat→List Int
 | 0=>[]
 | k+1=>if (chTo f k).length=0∨ix (chTo f k) ((chTo f k).length - 1) ≠ f k then chTo f k ++ [f k] else chTo f k
theorem chTo_len (f:Nat→Int) (k:Nat):(chTo f k).length≤k:=by
 induction k with
 | zero=>simp [chTo]
 | succ k ih =>
  simp only [chTo];split
  ·simp;omega
  ·omega
theorem chTo_put {f:Nat→Int} {k:Nat} (h:(chTo f k).length=0∨ix (chTo f k) ((chTo f k).length - 1) ≠ f k):chTo f (k+1)=chTo f k ++ [f k]:=by simp only [chTo];rw [if_pos h]
theorem chTo_keep {f:Nat→Int} {k:Nat} (h0:(chTo f k).length ≠ 0) (h:ix (chTo f k) ((chTo f k).length - 1)=f k):chTo f (k+1)=chTo f k:=by
 simp only [chTo];rw [if_neg (by rintro (g | g);exact h0 g;exact g h)]
def chAt (rows:List (List Int)) (x q i:Nat):Int:=ix (rx rows (x+i)) q
noncomputable def childF (ar:Int) (rows:List (List Int)) (p:List Int):List Int :=
 if preOK ar rows p=true∧(p.length:Int)<ar then chTo (chAt rows (preLo rows p) p.length) (preHi rows p - preLo rows p) else []
theorem childF_no {ar:Int} {rows:List (List Int)} {p:List Int} (h:¬ (preOK ar rows p=true∧(p.length:Int)<ar)):childF ar rows p=[]:=if_neg h
theorem childF_yes {ar:Int} {rows:List (List Int)} {p:List Int} (h:preOK ar rows p=true∧(p.length:Int)<ar):childF ar rows p=chTo (chAt rows (preLo rows p) p.length) (preHi rows p - preLo rows p):=if_pos h
theorem preHi_ge (rows:List (List Int)) (p:List Int):preLo rows p≤preHi rows p:=by
 have hs:=firstIx_sp (fun i=>preLo rows p≤i∧cmpP rows p i ≠ 0) rows.length
 have hl:=firstIx_le (fun i=>preLo rows p≤i∧cmpP rows p i ≠ 0) rows.length
 have h0:=preLo_le rows p
 unfold preHi
 by_cases g:firstIx (fun i=>preLo rows p≤i∧cmpP rows p i ≠ 0) rows.length<rows.length
 ·exact (hs.1 g).1
 ·omega
theorem range_le (ar:Int) (rows:List (List Int)) (p:List Int):rangeLo ar rows p≤rangeHi ar rows p:=by
 unfold rangeLo rangeHi
 split
 ·exact preHi_ge rows p
 ·exact Nat.le_refl _
theorem childF_range {ar:Int} {rows:List (List Int)} {p:List Int} (h:(p.length:Int)<ar):childF ar rows p=chTo (chAt rows (rangeLo ar rows p) p.length) (rangeHi ar rows p - rangeLo ar rows p):=by
 by_cases g:preOK ar rows p=true
 ·rw [childF_yes ⟨g,h⟩,(range_yes g).1,(range_yes g).2]
 ·rw [childF_no (fun h=>g h.1),(range_no (by simpa using g)).1,(range_no (by simpa using g)).2];rfl
end Go.Proofs.Ytfobmfngbfbfdaa
namespace Go.Proofs.Ytfobmfngbfbfdaa
set_option linter.unusedSimpArgs false
set_option linter.unusedVariables false
open Go.RowKit
theorem last_snoc (l:List Int) (x:Int):ix (l ++ [x]) ((l ++ [x]).length - 1)=x:=by simp [ix]
theorem ch_last {f:Nat→Int}:∀ n,0<n→0<(chTo f n).length∧ix (chTo f n) ((chTo f n).length - 1)=f (n - 1)
 | 0,h=>by omega
 | n+1,_=>by
  simp only [chTo,Nat.add_sub_cancel]
  split
  ·exact ⟨by simp,last_snoc _ _⟩
  ·rename_i h
   have:¬ ((chTo f n).length=0)∧¬ (ix (chTo f n) ((chTo f n).length - 1) ≠ f n):=⟨fun h'=>h (.inl h'),fun h'=>h (.inr h')⟩
   exact ⟨by omega,Classical.not_not.1 this.2⟩
section
variable {ar:Int} {rows:List (List Int)} (hv:validR ar rows=true)
include hv
theorem rows_lenT {i:Nat} (hi:i<rows.length):((rx rows i).length:Int)=ar:=by
 simp only [validR,decide_eq_true_eq] at hv
 exact (hv.2.2 i hi).1
theorem rows_lt:∀ {i j:Nat},i<j→j<rows.length→cmpR (rx rows i) (rx rows j)<0:=by
 have h:=hv
 simp only [validR,decide_eq_true_eq] at h
 intro i j
 induction j with
 | zero=>intro h1;omega
 | succ j ih =>
  intro h1 h2
  have h3:=(h.2.2 (j+1) h2).2.2 (by omega)
  simp only [Nat.add_sub_cancel] at h3
  by_cases e:i=j
  ·subst e;exact h3
  ·have h4:=ih (by omega) (by omega)
   have l1:=rows_lenT hv (show i<rows.length by omega)
   have l2:=rows_lenT hv (show j<rows.length by omega)
   have l3:=rows_lenT hv h2
   exact (cmpR_tr (by omega) (by omega) (by omega) (by omega)).2 (.inl h4)
theorem takes_le {i j:Nat} (q:Nat) (h1:i≤j) (h2:j<rows.length):cmpR ((rx rows i).take q) ((rx rows j).take q)≤0:=by
 by_cases e:i=j
 ·subst e;rw [cmpR_self];omega
 ·have l1:=rows_lenT hv (show i<rows.length by omega)
  have l2:=rows_lenT hv h2
  have:=rows_lt hv (show i<j by omega) h2
  exact cmpR_take q (by omega) (by omega)
theorem pre_iff {p:List Int} (hp:(p.length:Int)≤ar) {i:Nat} (hi:i<rows.length):(preLo rows p≤i∧i<preHi rows p)↔(rx rows i).take p.length=p:=by
 have hlen:∀ {j},j<rows.length→((rx rows j).take p.length).length=p.length:=fun {j} hj=>by
  have:=rows_lenT hv hj
  rw [List.length_take];omega
 have mono:∀ {a b:Nat},a≤b→b<rows.length→(cmpP rows p b<0→cmpP rows p a<0)∧(cmpP rows p b≤0→cmpP rows p a≤0):=fun {a b} h1 h2=>by
  have h3:=takes_le hv p.length h1 h2
  unfold cmpP
  have t:=fun h=>cmpR_tr (c:=p) (by rw [hlen (show a<rows.length by omega),hlen h2]) (hlen h2) h3 h
  exact ⟨fun h=>(t (by omega)).2 (.inr h),fun h=>(t h).1⟩
 have hz:cmpP rows p i=0↔(rx rows i).take p.length=p:=cmpR_zero
 rw [← hz]
 have hrg:=cmpR_rng ((rx rows i).take p.length) p
 have s1:=firstIx_sp (fun i=>¬ cmpP rows p i<0) rows.length
 have s2:=firstIx_sp (fun i=>preLo rows p≤i∧cmpP rows p i ≠ 0) rows.length
 have lo1:∀ j,j<preLo rows p→cmpP rows p j<0:=fun j hj=>Classical.not_not.1 (s1.2 j hj)
 have lo2:preLo rows p<rows.length→¬ cmpP rows p (preLo rows p)<0:=fun h=>s1.1 h
 have hi1:∀ j,preLo rows p≤j→j<preHi rows p→cmpP rows p j=0:=fun j h1 h2=>Classical.not_not.1 fun h3=>s2.2 j h2 ⟨h1,h3⟩
 have hi2:preHi rows p<rows.length→preLo rows p≤preHi rows p∧cmpP rows p (preHi rows p) ≠ 0:=fun h=>s2.1 h
 have hrg2:∀ j,cmpP rows p j = -1∨cmpP rows p j=0∨cmpP rows p j=1:=fun j=>cmpR_rng _ _
 constructor
 ·rintro ⟨h1,h2⟩;exact hi1 i h1 h2
 ·intro h
  have a1:preLo rows p≤i:=by
   by_cases e:i<preLo rows p
   ·have:=lo1 i e;omega
   ·omega
  refine ⟨a1,?_⟩
  by_cases e:i<preHi rows p
  ·exact e
  ·exfalso
   have b1:=hi2 (by omega)
   have b2:=(mono (show preHi rows p≤i by omega) hi).2 (by omega)
   have b3:=lo2 (by omega)
   have b4:=(mono b1.1 (by omega)).1
   rcases hrg2 (preHi rows p) with g | g | g
   ·exact b3 (b4 (by omega))
   ·exact b1.2 g
   ·omega
theorem take_snoc {i:Nat} {q:Nat} (hi:i<rows.length) (hq:(q:Int)<ar):(rx rows i).take (q+1)=(rx rows i).take q ++ [ix (rx rows i) q]:=by
 have:=rows_lenT hv hi
 have hl:q<(rx rows i).length:=by omega
 rw [List.take_succ_eq_append_getElem hl,ix_lt hl]
theorem col_le {p:List Int} (hp:(p.length:Int)<ar) {i j:Nat} (h1:i≤j) (hj:j<rows.length) (e1:(rx rows i).take p.length=p) (e2:(rx rows j).take p.length=p):ix (rx rows i) p.length≤ix (rx rows j) p.length:=by
 have h:=takes_le hv (p.length+1) h1 hj
 rw [take_snoc hv (by omega) hp,take_snoc hv hj hp,e1,e2,cmpR_snoc] at h
 unfold cmpI at h
 split at h
 ·omega
 ·split at h <;> omega
end
theorem preHi_le' (rows:List (List Int)) (p:List Int):preHi rows p≤rows.length:=firstIx_le _ _
section
variable {ar:Int} {rows:List (List Int)} (hv:validR ar rows=true)
include hv
end
end Go.Proofs.Ytfobmfngbfbfdaa
namespace Go.Proofs.Ytfobmfngbfbfdaa
set_option linter.unusedSimpArgs false
set_option linter.unusedVariables false
open Go.RowKit
theorem own_empty (w:World) (base g:Nat) (hb:base≤g) (hg:w.heap[g]? = some (.cells #[] 3 (0,0))):Own base w (some ⟨g,0,none⟩) 0 0 [] :=
 ⟨⟨rfl,.inr ⟨g,0,#[],rfl,hb,hg,Nat.le_refl _,by simp [maxLen],rfl,rfl⟩⟩,fun _ h=>(by cases h)⟩
theorem al1 (W:World) (A B:Obj):((W.alloc A).alloc B).heap[W.heap.size+1]? = some B:=by
 have:=heap_alloc_new (W.alloc A) B
 simpa using this
set_option maxHeartbeats 3200000 in
theorem specChildren {fz fz':Bool} {lo hi lo' hi':Nat} (ar:Int) (a:Option Addr) (n c:Nat) (rows:List (List Int)) (pa:Option Addr) (pn pc:Nat) (p:List Int) (w:World) (hI:RowsA fz lo hi w a n c rows) (hh:hi≤w.heap.size) (har:I64 ar)
 (hP:IntsA fz' lo' hi' w pa pn pc p) (hh':hi'≤w.heap.size) (hn:n≤1048576) :
 Calls Try.prog 18 #[trieV ar a n c,.slice pa pn pc] w (GivesOwn w (childF ar rows p)):=by
 have HAR:=hid har;clear har
 have hl:=hI.len
 have hs:=hI.small
 have hlp:=hP.len
 have hsp:=hP.small
 have h1:=rangeLo_le ar rows p
 have h2:=rangeHi_le ar rows p
 have hxy:=range_le ar rows p
 rw [hl] at h1 h2
 have HL:=hid (And.intro hl hlp);clear hl hlp
 obtain ⟨x,hx⟩:∃ x,rangeLo ar rows p=x:=⟨_,rfl⟩
 obtain ⟨y,hy⟩:∃ y,rangeHi ar rows p=y:=⟨_,rfl⟩
 rw [hx] at h1
 rw [hy] at h2
 rw [hx,hy] at hxy
 have HX:=hid (And.intro hx hy);clear hx hy
 go_enter Try.func18,Try.ntmps18
 go_wp2_with fail
 refine (specRange ar a n c rows pa pn pc p _ (hI.be intsOK (B:=w.heap.size) belA hh) leA HAR.out (hP.be (B:=w.heap.size) belA hh') leA).mono ?_
 rintro e w1 ⟨rfl,hb1⟩
 rw [HX.out.1,HX.out.2]
 have hb2:Below w.heap.size w w1:=Below.trans belA (hb1.mono leA)
 have c0:w1.cell? ⟨w.heap.size,0,none⟩=some (.int .i64 ar):=(by rw [(bcell hb1).1 _ _ (by first | omega | (simp;done) | (simp;omega))];first | with_reducible assumption | (go_simp;done) | assumption | (simp [World.cell?];done))
 have c1:w1.cell? ⟨w.heap.size,1,none⟩=some (.slice a n c):=(by rw [(bcell hb1).1 _ _ (by first | omega | (simp;done) | (simp;omega))];first | with_reducible assumption | (go_simp;done) | assumption | (simp [World.cell?];done))
 have ho:Own (w.heap.size+1) w1 (some ⟨w.heap.size+1,0,none⟩) 0 0 []:=own_empty _ _ _ (Nat.le_refl _) (by rw [hb1.block _ (by simp)];exact al1 _ _ _)
 have hz1:w.heap.size+1<w1.heap.size:=by have:=hb1.size;simp at this;omega
 have HO:=hid ho;clear ho
 have HB:=hid (And.intro hb1 hb2);clear hb1 hb2
 have HI:=hid (And.intro hI hP);clear hI hP
 by_cases hle:(pn:Int)<ar
 ·have HF:=hid (childF_range (ar:=ar) (rows:=rows) (p:=p) (by rw [HL.out.2];exact hle))
  have hv:∀ i,i<y→x≤i→((rx rows i).length:Int)=ar:=by
   intro i hi hi'
   have hp:preOK ar rows p=true:=by
    cases hq:preOK ar rows p with
    | true=>rfl
    | false=>have:=(range_no hq).2;rw [HX.out.2] at this;omega
   have hvr:validR ar rows=true:=by cases hq:validR ar rows with
    | true=>rfl
    | false=>rw [preOK_val hq] at hp;cases hp
   exact ((validR_out hvr).2.2 i (by rw [HL.out.1];omega)).1
  have HV:=hid hv;clear hv
  go_wp2_with fail
  go_loopw [5,8] (fun v i wr=>∃ (k:Nat) (ao:Option Addr) (m co:Nat),i=.int .i64 ((x+k:Nat):Int)∧v=.slice ao m co∧x+k≤y∧Own (w.heap.size+1) wr ao m co (chTo (chAt rows x pn) k)∧Below (w.heap.size+1) w1 wr) (fun _ i _=>y - (intOf i).toNat)
  case atStart=>exact ⟨0,_,0,0,by simp,rfl,hxy,HO.out,Below.refl _ _⟩
  case round =>
   obtain ⟨k,ao,m,co,hi,rfl,hk,hown,hbel⟩:=hrel
   generalize hj:x+k=j at hi hk
   subst hi
   have hm:m≤k:=by have g1:=hown.len;have g2:=chTo_len (chAt rows x pn) k;omega
   have hbw:Below w.heap.size w wr:=HB.out.2.trans (hbel.mono (by omega))
   have hzw:=hbel.size
   have c0r:wr.cell? ⟨w.heap.size,0,none⟩=some (.int .i64 ar):=by rw [hbel.cell (p:=⟨w.heap.size,0,none⟩) (by simp)];exact c0
   have c1r:wr.cell? ⟨w.heap.size,1,none⟩=some (.slice a n c):=by rw [hbel.cell (p:=⟨w.heap.size,1,none⟩) (by simp)];exact c1
   have hIr:=HI.out.1.be intsOK hbw hh
   have hPr:=HI.out.2.be hbw hh'
   have hoi:=hown.ints
   have hk2:k≤1048576:=by omega
   have HJ:=hid hj;clear hj
   have HO1:=hid hown;clear hown
   have HB1:=hid (And.intro hbel hbw);clear hbel hbw
   by_cases hlt:j<y
   ·obtain ⟨b,off,rfl⟩:=RowsA.some hIr (by omega)
    obtain ⟨_,_,ra,rn,rc,hc,hr,_⟩:=RowsA.at hIr (show j<n by omega)
    have hrn:pn<rn:=by have g:=HV.out j hlt (by have:=HJ.out;omega);have g2:=hr.len;omega
    have hrs:=hr.small
    obtain ⟨b2,off2,rfl,_,_,hc2,_⟩:=hr.open (by omega)
    have d0:=hc2 pn hrn
    have hat:=hr.at hrn
    have hf:chAt rows x pn k=ix (rx rows j) pn:=by unfold chAt;rw [HJ.out]
    generalize hve:ix (rx rows j) pn=v at *
    have HIR:=hid (And.intro hIr hPr);clear hIr hPr hc2 hr
    have hml:(chTo (chAt rows x pn) k).length=m:=hoi.len
    by_cases hm0:m=0
    ·have hput:=chTo_put (f:=chAt rows x pn) (k:=k) (.inl (by omega))
     rw [hf] at hput
     have HP:=hid (And.intro hput (And.intro hve (And.intro hf hml)));clear hput hve hf hml
     subst hm0
     have HOI:=hid hoi;clear hoi
     go_wp2_with (at_builtin;refine wpApp rfl (.tmp 52) (.tmp 54) rfl (w.heap.size+1) ao 0 co _ rfl (HO1.out.alloc _) _ 1 1 _ rfl (one_ints _ _ _ hat) (by omega) (by simp;omega) ?_)
     intro a1 c1' w2 ho2 hg2
     have hb2:Below (w.heap.size+1) w1 w2:=ho0' HO1.out HB1.out.1 (by omega) hg2
     have HO2:=hid ho2;clear ho2
     have HB2:=hid hb2;clear hb2 hg2
     go_wp2
     go_roundw
     case rel=>exact ⟨k+1,a1,1,c1',by rw [← HJ.out];go_num,by simp,by have:=HJ.out;omega,by rw [HP.out.1];simpa using HO2.out,HB2.out⟩
     case measure=>simp [intOf];omega
    ·obtain ⟨m',rfl⟩:∃ m',m=m'+1:=⟨m - 1,by omega⟩
     obtain ⟨b3,off3,rfl,_,_,hc3,_⟩:=hoi.open (by omega)
     have d1:=hc3 m' (by omega)
     clear hc3
     have HOI:=hid hoi;clear hoi
     generalize hlv:ix (chTo (chAt rows x pn) k) m'=lv at *
     by_cases he:lv=v
     ·have hkeep:=chTo_keep (f:=chAt rows x pn) (k:=k) (by omega) (by rw [hml];simp only [Nat.add_sub_cancel];rw [hlv,hf];exact he)
      have HP:=hid (And.intro hkeep (And.intro hve (And.intro hf (And.intro hml hlv))));clear hkeep hve hf hml hlv
      have hb:(lv != v)=false:=by simp [he]
      have HE:=hid he;clear he
      go_wp2_with fail
      go_roundw
      case rel=>exact ⟨k+1,_,m'+1,_,by rw [← HJ.out];go_num,rfl,by have:=HJ.out;omega,by rw [HP.out.1];exact HO1.out,HB1.out.1⟩
      case measure=>simp [intOf];omega
     ·have hput:=chTo_put (f:=chAt rows x pn) (k:=k) (.inr (by rw [hml];simp only [Nat.add_sub_cancel];rw [hlv,hf];exact he))
      rw [hf] at hput
      have HP:=hid (And.intro hput (And.intro hve (And.intro hf (And.intro hml hlv))));clear hput hve hf hml hlv
      have hb:(lv != v)=true:=by simp [he]
      have HE:=hid he;clear he
      go_wp2_with (at_builtin;refine wpApp rfl (.tmp 52) (.tmp 54) rfl (w.heap.size+1) _ (m'+1) co _ rfl (HO1.out.alloc _) _ 1 1 _ rfl (one_ints _ _ _ hat) (by omega) (by simp;omega) ?_)
      intro a1 c1' w2 ho2 hg2
      have hb2:Below (w.heap.size+1) w1 w2:=ho0' HO1.out HB1.out.1 (by omega) hg2
      have HO2:=hid ho2;clear ho2
      have HB2:=hid hb2;clear hb2 hg2
      go_wp2
      go_roundw
      case rel=>exact ⟨k+1,a1,m'+1+1,c1',by rw [← HJ.out];go_num,rfl,by have:=HJ.out;omega,by rw [HP.out.1];exact HO2.out,HB2.out⟩
      case measure=>simp [intOf];omega
   ·go_wp2_with fail
    go_ret
    have hky:k=y - x:=by have:=HJ.out;omega
    exact ⟨_,_,_,rfl,by rw [HF.out,HX.out.1,HX.out.2,← hky,HL.out.2];exact HO1.out.low (by omega),HB1.out.2⟩
 ·have HF:=hid (childF_no (ar:=ar) (rows:=rows) (p:=p) (by rw [HL.out.2];exact fun h=>hle h.2))
  by_cases hxy0:x<y
  ·go_wp2_with fail
   go_loopw [5,8] (fun v i wr=>i=.int .i64 x∧v=.slice (some ⟨w.heap.size+1,0,none⟩) 0 0∧wr=w1) (fun _ i _=>y - (intOf i).toNat)
   case atStart=>exact ⟨rfl,rfl,rfl⟩
   case round =>
    obtain ⟨rfl,rfl,rfl⟩:=hrel
    go_wp2_with fail
    go_ret
    exact ⟨_,_,_,rfl,by rw [HF.out];exact HO.out.low (by omega),HB.out.2⟩
  ·go_wp2_with fail
   go_loopw [5,8] (fun v i wr=>i=.int .i64 x∧v=.slice (some ⟨w.heap.size+1,0,none⟩) 0 0∧wr=w1) (fun _ i _=>y - (intOf i).toNat)
   case atStart=>exact ⟨rfl,rfl,rfl⟩
   case round =>
    obtain ⟨rfl,rfl,rfl⟩:=hrel
    go_wp2_with fail
    go_ret
    exact ⟨_,_,_,rfl,by rw [HF.out];exact HO.out.low (by omega),HB.out.2⟩
end Go.Proofs.Ytfobmfngbfbfdaa
namespace Go.Proofs.Ytfobmfngbfbfdaa
set_option linter.unusedSimpArgs false
set_option linter.unusedVariables false
open Go.RowKit
end Go.Proofs.Ytfobmfngbfbfdaa
namespace Go.Proofs.Ytfobmfngbfbfdaa
set_option linter.unusedSimpArgs false
set_option linter.unusedVariables false
attribute [local go_sem ↓] reduceIte
attribute [local go_sem] Nat.reduceEqDiff Nat.reduceLT Nat.reduceAdd Nat.reduceLeDiff Nat.reduceMul Nat.reduceBEq Nat.reduceSub reduceCtorEq Int.reduceLE Int.reduceNeg Int.reduceLT
open Go.RowKit
section
variable (ar:Int) (rows:List (List Int)) (p:List Int)
theorem specChildA (hl:rows.length≤1048576):AFn 18 [.d (relD ar rows),.d (intsD p)] [] (fun r os=>r=.d (intsD (childF ar rows p))∧os=[]):=by
 refine own_afn (fnOK (by kernel_rfl)) ?_
 rintro w G _ ⟨v1,_,rfl,h1,v2,_,rfl,h2,rfl⟩ hC
 obtain ⟨a,n,c,rfl,har,hI⟩:=cv_rel hC h1
 obtain ⟨pa,pn,pc,rfl,hP⟩:=cv_ints hC h2
 exact specChildren ar a n c rows pa pn pc p w hI (Nat.le_refl _) har hP (Nat.le_refl _) (by rw [← hI.len];exact hl)
theorem same1 (xs:List Int) (hl:xs.length≤1048576):AFn 22 [.d (intsD xs),.d (intsD xs)] [] (fun r os=>r=.d (.bool true)∧os=[]):=by
 refine afn_of (rv:=[.tmp 4]) tyT_ok Try.func22 rfl (by decide +kernel) Try.ntmps22 rfl (by simp) ?_
 repeat' (first | refine sq ?_ | refine stp ?_ | refine blk_o (by decide) ?_ | (apply cb;(focus (simp (disch:=(first | omega | (simp;omega))) only [go_sem,w64,intsD];try exact rfl));refine cok ?_) | (refine rgT ?_;intro K hK) | (refine dA ?_;intro K hK) | (with_reducible refine hK _ ?_;clear hK K) | (refine stq ?_;simp (disch:=(first | omega | (simp;omega))) only [go_sem,w64,intsD]) | refine as1 ?_ | fail)
 refine awp_loopw (fun m s=>∃ k,m=xs.length - k∧k≤xs.length∧s=mkS [(0,.d (intsD xs)),(1,.d (intsD xs)),(5,.d (.int (k:Nat)))] []) ?_ ?_
 ·refine ⟨_,_,?_,0,rfl,Nat.zero_le _,rfl⟩
  exact sleA
 ·rintro m s ⟨k,rfl,hk,rfl⟩
  repeat' (first | refine sq ?_ | refine stp ?_ | refine blk_o (by decide) ?_ | (apply cb;(focus (simp (disch:=(first | omega | (simp;omega))) only [go_sem,w64,intsD];try exact rfl));refine cok ?_) | (refine rgT ?_;intro K hK) | (refine dA ?_;intro K hK) | (with_reducible refine hK _ ?_;clear hK K) | (refine stq ?_;simp (disch:=(first | omega | (simp;omega))) only [go_sem,w64,intsD]) | refine as1 ?_ | fail)
  refine awp_if (p:=(k:Int)<xs.length) (by simp (disch:=(first | omega | (simp;omega))) only [go_sem,w64]) ?_ ?_ <;> intro hc
  ·have hk2:k<xs.length:=by omega
   repeat' (first | refine sq ?_ | refine stp ?_ | refine blk_o (by decide) ?_ | (apply cb;(focus (simp (disch:=(first | omega | (simp;omega))) only [go_sem,w64,intsD];try exact rfl));refine cok ?_) | (refine rgT ?_;intro K hK) | (refine dA ?_;intro K hK) | (with_reducible refine hK _ ?_;clear hK K) | (refine stq ?_;simp (disch:=(first | omega | (simp;omega))) only [go_sem,w64,intsD]) | refine as1 ?_ | fail)
   refine ⟨xs.length - (k+1),_,by omega,?_,k+1,rfl,by omega,rfl⟩
   exact sleA
  ·obtain rfl:k=xs.length:=by omega
   repeat' (first | refine sq ?_ | refine stp ?_ | refine blk_o (by decide) ?_ | (apply cb;(focus (simp (disch:=(first | omega | (simp;omega))) only [go_sem,w64,intsD];try exact rfl));refine cok ?_) | (refine rgT ?_;intro K hK) | (refine dA ?_;intro K hK) | (with_reducible refine hK _ ?_;clear hK K) | (refine stq ?_;simp (disch:=(first | omega | (simp;omega))) only [go_sem,w64,intsD]) | refine as1 ?_ | fail)
   (refine endA (r:=.d (.bool true)) ?_)
   exact ⟨rfl,rfl⟩
end
noncomputable def gP (ar:Int) (rows:List (List Int)) (p:List Int) (v:Int):Nat:=rangeHi ar rows (p ++ [v]) - rangeLo ar rows (p ++ [v])
end Go.Proofs.Ytfobmfngbfbfdaa
namespace Go.Proofs.Ytfobmfngbfbfdaa
set_option linter.unusedSimpArgs false
set_option linter.unusedVariables false
open Go.RowKit
section
variable (ar:Int) (rows:List (List Int)) (lw gh ps:List Int)
theorem implPathA (hn:ps.length≤1048576):AFn 23 [.d (itD ar rows lw gh ps)] [] (fun r os=>r=.d (intsD (pathF ar rows lw gh ps))∧os=[]):=by
 refine own_afn (fnOK (by kernel_rfl)) ?_
 rintro w G _ ⟨v1,_,rfl,h1,rfl⟩ hC
 obtain ⟨a,n,c,la,ln,lc,ga,gn,gc,pa,pn,pc,rfl,hI⟩:=cv_iter hC h1
 exact implPath ar a n c rows la ln lc lw ga gn gc gh pa pn pc ps w hI (Nat.le_refl _) hn
theorem specPathA (hn:ps.length≤1048576):AFn 19 [.d (itD ar rows lw gh ps)] [] (fun r os=>r=.d (intsD (pathF ar rows lw gh ps))∧os=[]):=by
 refine own_afn (fnOK (by kernel_rfl)) ?_
 rintro w G _ ⟨v1,_,rfl,h1,rfl⟩ hC
 obtain ⟨a,n,c,la,ln,lc,ga,gn,gc,pa,pn,pc,rfl,hI⟩:=cv_iter hC h1
 exact specPath ar a n c rows la ln lc lw ga gn gc gh pa pn pc ps w hI (Nat.le_refl _) hn
variable (hs:szIter rows lw gh ps≤1048576)
include hs
theorem implNextA:AFn 20 [.d (itD ar rows lw gh ps)] [] (fun r os=>r=.tup [.d (itD ar rows lw gh (nextP ar rows lw gh ps)),.d (.bool (standsF ar rows lw gh ps))]∧os=[]):=by
 refine itb_afn (fnOK (by kernel_rfl)) ?_
 rintro w G _ ⟨v1,_,rfl,h1,rfl⟩ hC
 obtain ⟨a,n,c,la,ln,lc,ga,gn,gc,pa,pn,pc,rfl,hI⟩:=cv_iter hC h1
 exact implNext ar a n c rows la ln lc lw ga gn gc gh pa pn pc ps w hI (Nat.le_refl _) hs
theorem implCloseA:AFn 17 [.d (itD ar rows lw gh ps)] [] (fun r os=>r=.tup [.d (itD ar rows (clT (clOK ar rows lw gh ps) ps.length lw) (clT (clOK ar rows lw gh ps) ps.length gh) (clT (clOK ar rows lw gh ps) ps.length ps)),.d (.bool (clOK ar rows lw gh ps))]∧os=[]):=by
 refine itb_afn (fnOK (by kernel_rfl)) ?_
 rintro w G _ ⟨v1,_,rfl,h1,rfl⟩ hC
 obtain ⟨a,n,c,la,ln,lc,ga,gn,gc,pa,pn,pc,rfl,hI⟩:=cv_iter hC h1
 exact implClose ar a n c rows la ln lc lw ga gn gc gh pa pn pc ps w hI (Nat.le_refl _) hs
theorem implOpenA:AFn 14 [.d (itD ar rows lw gh ps)] [] (fun r os=>r=.tup [.d (itD ar rows (opT (opOK ar rows lw gh ps) lw (bnd rows ps ps.length).1) (opT (opOK ar rows lw gh ps) gh (bnd rows ps ps.length).2) (opT (opOK ar rows lw gh ps) ps (bnd rows ps ps.length).1)),.d (.bool (opOK ar rows lw gh ps))]∧os=[]):=by
 refine itb_afn (fnOK (by kernel_rfl)) ?_
 rintro w G _ ⟨v1,_,rfl,h1,rfl⟩ hC
 obtain ⟨a,n,c,la,ln,lc,ga,gn,gc,pa,pn,pc,rfl,hI⟩:=cv_iter hC h1
 exact implOpen ar a n c rows la ln lc lw ga gn gc gh pa pn pc ps w hI (Nat.le_refl _) hs
end
end Go.Proofs.Ytfobmfngbfbfdaa
namespace Go.Proofs.Ytfobmfngbfbfdaa
set_option linter.unusedSimpArgs false
set_option linter.unusedVariables false
open Go.RowKit
section
variable {ar:Int} {rows:List (List Int)} {low high pos:List Int}
theorem bnd_share (hv:validR ar rows=true) {n:Nat} (hn:(n:Int)≤ar) (h:∀ j,j<n→LevOK rows low high pos n j):∀ k,k<n→∀ i j,(bnd rows pos k).1≤i→i<(bnd rows pos k).2→(bnd rows pos k).1≤j→j<(bnd rows pos k).2→(rx rows i).take k=(rx rows j).take k
 | 0,_,i,j,_,_,_,_=>by simp
 | k+1,hk,i,j,h1,h2,h3,h4=>by
  have hb:=bnd_ok (n:=n) (k:=k) (by omega) (fun j hj=>h j (by omega))
  have hl:=h k (by omega)
  have hpx:=lev_px hl
  have hlo:(bnd rows pos k).1≤px pos k:=by have:=hl.2.2.1.1;omega
  simp only [bnd] at h1 h2 h3 h4
  have hg:=grpEnd_le rows k (px pos k) (bnd rows pos k).2
  have key:∀ i,px pos k≤i→i<grpEnd rows k (px pos k) (bnd rows pos k).2→ix (rx rows i) k=ix (rx rows (px pos k)) k:=fun i g1 g2=>by
   have:=(firstIx_sq (fun i=>px pos k≤i∧kx rows i k ≠ kx rows (px pos k) k) (bnd rows pos k).2).2 i g2
   exact Classical.byContradiction fun hne=>this ⟨g1,hne⟩
  rw [take_snoc hv (by omega) (by omega),take_snoc hv (by omega) (by omega),bnd_share hv hn h k (by omega) i j (by omega) (by omega) (by omega) (by omega),key i h1 h2,key j h3 h4]
theorem bnd_asc (hv:validR ar rows=true) {n:Nat} (hn:(n:Int)≤ar) (h:∀ j,j<n→LevOK rows low high pos n j) {k i j:Nat} (hk:k<n) (h1:(bnd rows pos k).1≤i) (h2:i≤j) (h3:j<(bnd rows pos k).2):kx rows i k≤kx rows j k:=by
 have hb:=bnd_ok (n:=n) (k:=k) hk (fun j hj=>h j (by omega))
 have hs:=bnd_share hv hn h k hk i j h1 (by omega) (by omega) h3
 have hlen:((rx rows j).take k).length=k:=by
  rw [List.length_take]
  have:=rows_lenT hv (i:=j) (by omega)
  omega
 have:=col_le hv (p:=(rx rows j).take k) (by rw [hlen];omega) h2 (by omega) (by rw [hlen];exact hs) (by rw [hlen])
 rw [hlen] at this
 exact this
theorem bnd_congr {pos pos':List Int}:∀ k,(∀ j,j<k→ix pos' j=ix pos j)→bnd rows pos' k=bnd rows pos k
 | 0,_=>rfl
 | k+1,h=>by
  have e:=bnd_congr k (fun j hj=>h j (by omega))
  have e2:px pos' k=px pos k:=by unfold px;rw [h k (by omega)]
  simp only [bnd,e,e2]
theorem stands_eq (hv:validIt ar rows low high pos=true) (hp:0<pos.length):standsF ar rows low high pos = !atEndF ar rows low high pos:=by
 unfold standsF
 rw [hv,decide_eq_true hp];simp
end
end Go.Proofs.Ytfobmfngbfbfdaa
namespace Go.Proofs.Ytfobmfngbfbfdaa
set_option linter.unusedSimpArgs false
set_option linter.unusedVariables false
open Go.RowKit
theorem ixS {l:List Int} {x:Int} {j:Nat}:ix (l ++ [x]) j=if j=l.length then x else ix l j:=by
 simp only [ix,List.getD]
 by_cases h:j<l.length
 ·rw [List.getElem?_append_left h,if_neg (by omega)]
 ·rw [List.getElem?_append_right (by omega)]
  by_cases e:j=l.length
  ·subst e;simp
  ·rw [if_neg e,List.getElem?_eq_none (by simp;omega),List.getElem?_eq_none (by omega)]
theorem ch_const {f:Nat→Int} {a:Nat} (hs:0<a→f (a - 1) ≠ f a):∀ {b:Nat},a<b→(∀ i,a≤i→i<b→f i=f a)→chTo f b=chTo f a ++ [f a]
 | 0,h,_=>by omega
 | b+1,h,hc=>by
  by_cases e:b=a
  ·subst e
   simp only [chTo]
   refine if_pos ?_
   by_cases h0:b=0
   ·subst h0;exact .inl rfl
   ·exact .inr (by rw [(ch_last b (by omega)).2];exact hs (by omega))
  ·have ih:=ch_const hs (b:=b) (by omega) (fun i h1 h2=>hc i h1 (by omega))
   simp only [chTo]
   rw [if_neg,ih]
   rw [ih,last_snoc,hc b (by omega) (by omega)]
   simp
section
variable {ar:Int} {rows:List (List Int)} {lw gh ps:List Int}
structure Op (ar:Int) (rows:List (List Int)) (lw gh ps:List Int):Prop where
 v:validIt ar rows lw gh ps=true
 e:∀ k,k<ps.length→px ps k<(bnd rows ps k).2
 n:(ps.length:Int)<ar
theorem op_of (h:opOK ar rows lw gh ps=true):Op ar rows lw gh ps:=by
 unfold opOK at h
 simp only [Bool.and_eq_true,Bool.not_eq_true',decide_eq_true_eq] at h
 obtain ⟨hv,he,hn⟩:=h
 obtain ⟨v1,v2,v3,v4,v5⟩:=validIt_out hv
 refine ⟨hv,fun k hk=>?_,hn⟩
 have hl:=v5 k hk
 have hp:=lev_px hl
 have h3:=hl.2.2.1.2
 have h4:=hl.2.2.2.1
 by_cases e:ix ps k=(bnd rows ps k).2
 ·exfalso
  have hk1:=h4 e
  have he2:k=ps.length - 1:=by omega
  simp only [atEndF,hv,Bool.true_and,decide_eq_false_iff_not] at he
  exact he ⟨by omega,by rw [← he2,e,hl.2.1]⟩
 ·omega
theorem pathTo_full (h:Op ar rows lw gh ps):∀ k,k≤ps.length→(pathTo rows gh ps k).length=k
 | 0,_=>rfl
 | k+1,hk=>by
  obtain ⟨v1,v2,v3,v4,v5⟩:=validIt_out h.v
  have hl:=v5 k (by omega)
  have:=lev_px hl
  have h2:=hl.2.1
  have h3:=h.e k (by omega)
  rw [pathTo_put (by omega),List.length_append,pathTo_full h k (by omega)];rfl
theorem bnd_path (h:Op ar rows lw gh ps):∀ k,k≤ps.length→∀ i,i<rows.length→(((bnd rows ps k).1≤i∧i<(bnd rows ps k).2)↔(rx rows i).take k=pathTo rows gh ps k)
 | 0,_,i,hi=>by
  simp only [bnd,pathTo,List.take_zero,iff_true]
  omega
 | k+1,hk,i,hi=>by
  obtain ⟨v1,v2,v3,v4,v5⟩:=validIt_out h.v
  have hl:=v5 k (by omega)
  have hpx:=lev_px hl
  have hk2:=h.e k (by omega)
  have hh:=hl.2.1
  have har:=h.n
  have ih:=bnd_path h k (by omega) i hi
  have hb:=bnd_ok (n:=ps.length) (k:=k) (by omega) (fun j hj=>v5 j (by omega))
  have hlo:(bnd rows ps k).1≤px ps k:=by have:=hl.2.2.1.1;omega
  have hasc:=fun (i j:Nat) h1 h2 h3=>bnd_asc (low:=lw) (high:=gh) v1 v4 v5 (k:=k) (i:=i) (j:=j) (by omega) h1 h2 h3
  have hsq:=firstIx_sq (fun i=>px ps k≤i∧kx rows i k ≠ kx rows (px ps k) k) (bnd rows ps k).2
  have hg1:=grpEnd_le rows k (px ps k) (bnd rows ps k).2
  have hgk:∀ j,px ps k≤j→j<grpEnd rows k (px ps k) (bnd rows ps k).2→kx rows j k=kx rows (px ps k) k:=fun j g1 g2=>Classical.byContradiction fun hne=>hsq.2 j g2 ⟨g1,hne⟩
  have hge:grpEnd rows k (px ps k) (bnd rows ps k).2<(bnd rows ps k).2→kx rows (grpEnd rows k (px ps k) (bnd rows ps k).2) k ≠ kx rows (px ps k) k∧px ps k≤grpEnd rows k (px ps k) (bnd rows ps k).2:=fun c=>⟨(hsq.1 c).2,(hsq.1 c).1⟩
  have hst:=hl.2.2.2.2
  rw [pathTo_put (by omega),take_snoc v1 hi (by omega)]
  simp only [bnd]
  generalize hG:grpEnd rows k (px ps k) (bnd rows ps k).2=g at *
  constructor
  ·rintro ⟨h1,h2⟩
   rw [ih.1 ⟨by omega,by omega⟩]
   have:=hgk i h1 h2
   unfold kx at this ⊢
   rw [this]
  ·intro heq
   obtain ⟨e1,e2⟩:=List.append_inj' heq rfl
   simp only [List.cons.injEq,and_true] at e2
   have hin:=ih.2 e1
   have e3:kx rows i k=kx rows (px ps k) k:=e2
   refine ⟨?_,?_⟩
   ·refine Nat.le_of_not_lt fun c=>?_
    have a1:=hasc i (px ps k - 1) hin.1 (by omega) (by omega)
    have a2:=hasc (px ps k - 1) (px ps k) (by omega) (by omega) hk2
    exact hst (by omega) (by omega) (by omega)
   ·refine Nat.lt_of_not_le fun c=>?_
    obtain ⟨b1,b2⟩:=hge (by omega)
    have a1:=hasc (px ps k) g (by omega) (by omega) (by omega)
    have a2:=hasc g i (by omega) c hin.2
    exact b1 (by omega)
theorem bnd_rng (h:Op ar rows lw gh ps):(bnd rows ps ps.length).1≤(bnd rows ps ps.length).2∧(bnd rows ps ps.length).2≤rows.length:=by
 obtain ⟨v1,v2,v3,v4,v5⟩:=validIt_out h.v
 rcases hn:ps.length with _ | n
 ·exact ⟨Nat.zero_le _,Nat.le_refl _⟩
 ·have hb:=bnd_ok (n:=ps.length) (k:=n) (by omega) (fun j hj=>v5 j (by omega))
  have:=grpEnd_gt (rows:=rows) (k:=n) (h.e n (by omega))
  have:=grpEnd_le rows n (px ps n) (bnd rows ps n).2
  simp only [bnd]
  omega
theorem want_eq (h:Op ar rows lw gh ps):childF ar rows (pathF ar rows lw gh ps)=chTo (fun i=>kx rows ((bnd rows ps ps.length).1+i) ps.length) ((bnd rows ps ps.length).2 - (bnd rows ps ps.length).1):=by
 obtain ⟨v1,v2,v3,v4,v5⟩:=validIt_out h.v
 have hlen:=pathTo_full h ps.length (Nat.le_refl _)
 have hpre:=bnd_path h ps.length (Nat.le_refl _)
 obtain ⟨r1,r2⟩:=bnd_rng h
 rw [pathF_yes h.v]
 have har:=h.n
 generalize hp:pathTo rows gh ps ps.length=p at *
 generalize (bnd rows ps ps.length).1=lo at *
 generalize (bnd rows ps ps.length).2=hi at *
 have hok:preOK ar rows p=true:=by simp only [preOK,Bool.and_eq_true,decide_eq_true_eq];exact ⟨v1,by omega⟩
 rw [childF_yes ⟨hok,by omega⟩,hlen]
 have hiff:∀ i,i<rows.length→((preLo rows p≤i∧i<preHi rows p)↔(lo≤i∧i<hi)):=fun i hi'=>by
  rw [pre_iff v1 (p:=p) (by omega) hi',hlen];exact (hpre i hi').symm
 have q1:=preHi_ge rows p
 have q2:=preHi_le' rows p
 by_cases c:lo<hi
 ·have a1:=(hiff lo (by omega)).2 ⟨Nat.le_refl _,c⟩
  have a2:=(hiff (hi - 1) (by omega)).2 ⟨by omega,by omega⟩
  have a3:=(hiff (preLo rows p) (by omega)).1 ⟨Nat.le_refl _,by omega⟩
  have a4:=(hiff (preHi rows p - 1) (by omega)).1 ⟨by omega,by omega⟩
  have e1:preLo rows p=lo:=by omega
  have e2:preHi rows p=hi:=by omega
  rw [e1,e2];rfl
 ·have e:preHi rows p - preLo rows p=0:=by
   by_cases d:preLo rows p<preHi rows p
   ·have:=(hiff (preLo rows p) (by omega)).1 ⟨Nat.le_refl _,d⟩;omega
   ·omega
  rw [e,show hi - lo=0 by omega];rfl
def GStart (rows:List (List Int)) (n lo hi p:Nat):Prop:=(lo≤p∧p≤hi)∧(lo<p→p<hi→kx rows (p - 1) n ≠ kx rows p n)
theorem bnd_open (x:Int):∀ k,k≤ps.length→bnd rows (ps ++ [x]) k=bnd rows ps k:=fun k hk=>bnd_congr k fun j hj=>by rw [ixS,if_neg (by omega)]
theorem valid_open (h:Op ar rows lw gh ps) {p:Nat} (hg:GStart rows ps.length (bnd rows ps ps.length).1 (bnd rows ps ps.length).2 p):validIt ar rows (lw ++ [((bnd rows ps ps.length).1:Int)]) (gh ++ [((bnd rows ps ps.length).2:Int)]) (ps ++ [(p:Int)])=true:=by
 obtain ⟨v1,v2,v3,v4,v5⟩:=validIt_out h.v
 have har:=h.n
 refine validIt_mk v1 (by simp [v2]) (by simp [v3]) (by simp;omega) fun k hk=>?_
 have hk':k<ps.length+1:=by simpa using hk
 have hln:(ps ++ [(p:Int)]).length=ps.length+1:=by simp
 rw [hln]
 unfold LevOK
 rw [bnd_open _ k (by omega)]
 by_cases e:k=ps.length
 ·subst e
  have hpx:px (ps ++ [(p:Int)]) ps.length=p:=by unfold px;rw [ixS,if_pos rfl];exact Int.toNat_natCast p
  rw [hpx,ixS (l:=lw),if_pos v2.symm,ixS (l:=gh),if_pos v3.symm,ixS (l:=ps),if_pos rfl]
  obtain ⟨⟨g1,g2⟩,g3⟩:=hg
  exact ⟨rfl,rfl,⟨by omega,by omega⟩,fun _=>rfl,fun c1 c2=>g3 (by omega) (by omega)⟩
 ·have hpx:px (ps ++ [(p:Int)]) k=px ps k:=by unfold px;rw [ixS,if_neg e]
  rw [hpx,ixS (l:=lw),if_neg (by omega),ixS (l:=gh),if_neg (by omega),ixS (l:=ps),if_neg e]
  obtain ⟨g1,g2,g3,g4,g5⟩:=v5 k (by omega)
  have:=h.e k (by omega)
  have hp:=lev_px (v5 k (by omega))
  exact ⟨g1,g2,g3,fun c=>by omega,g5⟩
theorem at_open (h:Op ar rows lw gh ps) {p:Nat} (hg:GStart rows ps.length (bnd rows ps ps.length).1 (bnd rows ps ps.length).2 p) :
 atEndF ar rows (lw ++ [((bnd rows ps ps.length).1:Int)]) (gh ++ [((bnd rows ps ps.length).2:Int)]) (ps ++ [(p:Int)])=decide (p=(bnd rows ps ps.length).2)∧standsF ar rows (lw ++ [((bnd rows ps ps.length).1:Int)]) (gh ++ [((bnd rows ps ps.length).2:Int)]) (ps ++ [(p:Int)]) = !decide (p=(bnd rows ps ps.length).2)∧(p<(bnd rows ps ps.length).2→curKey ar rows (lw ++ [((bnd rows ps ps.length).1:Int)]) (gh ++ [((bnd rows ps ps.length).2:Int)]) (ps ++ [(p:Int)])=kx rows p ps.length ∧
  nextP ar rows (lw ++ [((bnd rows ps ps.length).1:Int)]) (gh ++ [((bnd rows ps ps.length).2:Int)]) (ps ++ [(p:Int)])=ps ++ [((grpEnd rows ps.length p (bnd rows ps ps.length).2:Nat):Int)]):=by
 obtain ⟨v1,v2,v3,v4,v5⟩:=validIt_out h.v
 have hv:=valid_open h hg
 have hln:(ps ++ [(p:Int)]).length=ps.length+1:=by simp
 have hpx:px (ps ++ [(p:Int)]) ps.length=p:=by unfold px;rw [ixS,if_pos rfl];exact Int.toNat_natCast p
 have hbd:=bnd_open (rows:=rows) (ps:=ps) (p:Int) ps.length (Nat.le_refl _)
 have e1:atEndF ar rows (lw ++ [((bnd rows ps ps.length).1:Int)]) (gh ++ [((bnd rows ps ps.length).2:Int)]) (ps ++ [(p:Int)])=decide (p=(bnd rows ps ps.length).2):=by
  unfold atEndF
  rw [hv,Bool.true_and,hln,Nat.add_sub_cancel,ixS,if_pos rfl,ixS,if_pos v3.symm,Bool.eq_iff_iff,decide_eq_true_eq,decide_eq_true_eq]
  omega
 have e2:=stands_eq hv (by rw [hln];omega)
 rw [e1] at e2
 refine ⟨e1,e2,fun hlt=>?_⟩
 have hs:standsF ar rows (lw ++ [((bnd rows ps ps.length).1:Int)]) (gh ++ [((bnd rows ps ps.length).2:Int)]) (ps ++ [(p:Int)])=true:=by
  rw [e2,decide_eq_false (by omega)];rfl
 refine ⟨?_,?_⟩
 ·unfold curKey
  rw [if_pos hs,hln,Nat.add_sub_cancel,hpx]
 ·rw [nextP_yes hs hln,hpx,hbd]
  simp
theorem next_open (h:Op ar rows lw gh ps) {p:Nat} (hg:GStart rows ps.length (bnd rows ps ps.length).1 (bnd rows ps ps.length).2 p) (hlt:p<(bnd rows ps ps.length).2) :
 p<grpEnd rows ps.length p (bnd rows ps ps.length).2∧GStart rows ps.length (bnd rows ps ps.length).1 (bnd rows ps ps.length).2 (grpEnd rows ps.length p (bnd rows ps ps.length).2)∧chTo (fun i=>kx rows ((bnd rows ps ps.length).1+i) ps.length) (grpEnd rows ps.length p (bnd rows ps ps.length).2 - (bnd rows ps ps.length).1)=chTo (fun i=>kx rows ((bnd rows ps ps.length).1+i) ps.length) (p - (bnd rows ps ps.length).1) ++ [kx rows p ps.length]:=by
 generalize (bnd rows ps ps.length).1=lo at *
 generalize (bnd rows ps ps.length).2=hi at *
 obtain ⟨⟨g1,g2⟩,g3⟩:=hg
 have hsq:=firstIx_sq (fun i=>p≤i∧kx rows i ps.length ≠ kx rows p ps.length) hi
 have hgt:=grpEnd_gt (rows:=rows) (k:=ps.length) hlt
 have hle:=grpEnd_le rows ps.length p hi
 have hgk:∀ j,p≤j→j<grpEnd rows ps.length p hi→kx rows j ps.length=kx rows p ps.length:=fun j g1 g2=>Classical.byContradiction fun hne=>hsq.2 j g2 ⟨g1,hne⟩
 have hge:grpEnd rows ps.length p hi<hi→kx rows (grpEnd rows ps.length p hi) ps.length ≠ kx rows p ps.length:=fun c=>(hsq.1 c).2
 generalize grpEnd rows ps.length p hi=g at *
 refine ⟨hgt,⟨⟨by omega,hle⟩,fun c1 c2=>?_⟩,?_⟩
 ·rw [hgk (g - 1) (by omega) (by omega)]
  exact fun e=>hge c2 e.symm
 ·have:=ch_const (f:=fun i=>kx rows (lo+i) ps.length) (a:=p - lo) (b:=g - lo) (fun c=>by
   have e1:lo+(p - lo - 1)=p - 1:=by omega
   have e2:lo+(p - lo)=p:=by omega
   simp only [e1,e2]
   exact g3 (by omega) hlt) (by omega) (fun i c1 c2=>by
   have e2:lo+(p - lo)=p:=by omega
   simp only [e2]
   exact hgk (lo+i) (by omega) (by omega))
  rw [this]
  have e2:lo+(p - lo)=p:=by omega
  simp only [e2]
theorem pathTo_congr {gh gh' ps ps':List Int}:∀ k,(∀ j,j<k→ix gh' j=ix gh j∧ix ps' j=ix ps j)→pathTo rows gh' ps' k=pathTo rows gh ps k
 | 0,_=>rfl
 | k+1,h=>by
  obtain ⟨e1,e2⟩:=h k (by omega)
  have e3:px ps' k=px ps k:=by unfold px;rw [e2]
  simp only [pathTo,e1,e2,e3,pathTo_congr k (fun j hj=>h j (by omega))]
theorem path_end (h:Op ar rows lw gh ps):pathF ar rows (lw ++ [((bnd rows ps ps.length).1:Int)]) (gh ++ [((bnd rows ps ps.length).2:Int)]) (ps ++ [((bnd rows ps ps.length).2:Int)])=pathF ar rows lw gh ps:=by
 obtain ⟨v1,v2,v3,v4,v5⟩:=validIt_out h.v
 obtain ⟨r1,r2⟩:=bnd_rng h
 have hv:=valid_open h (p:=(bnd rows ps ps.length).2) ⟨⟨r1,Nat.le_refl _⟩,fun _ c=>by omega⟩
 rw [pathF_yes hv,pathF_yes h.v]
 have hln:(ps ++ [((bnd rows ps ps.length).2:Int)]).length=ps.length+1:=by simp
 rw [hln,pathTo_keep (by rw [ixS,if_pos rfl,ixS,if_pos v3.symm];omega)]
 exact pathTo_congr _ fun j hj=>⟨by rw [ixS,if_neg (by omega)],by rw [ixS,if_neg (by omega)]⟩
theorem close_open (h:Op ar rows lw gh ps) {p:Nat} (hg:GStart rows ps.length (bnd rows ps ps.length).1 (bnd rows ps ps.length).2 p):clOK ar rows (lw ++ [((bnd rows ps ps.length).1:Int)]) (gh ++ [((bnd rows ps ps.length).2:Int)]) (ps ++ [(p:Int)])=true:=by
 unfold clOK
 rw [valid_open h hg]
 simp
theorem clT_snoc (xs:List Int) (x:Int) {m:Nat} (hm:m=xs.length+1):clT true m (xs ++ [x])=xs:=by
 subst hm
 simp [clT]
end
end Go.Proofs.Ytfobmfngbfbfdaa
namespace Go.Proofs.Ytfobmfngbfbfdaa
set_option linter.unusedSimpArgs false
set_option linter.unusedVariables false
open Go.ChangeShapes Go.WideShapes Go.ChangeAt Go.RowKit Go.Deep
theorem own:ownKnob Try.prog.godebug=none:=by kernel_rfl
theorem laidOut:laidOutB Try.prog=true:=by kernel_rfl
def ReadsBy {α:Type} (R:Rep α) (t:TypeId):Prop :=
 ∀ {H:Type} (enc:TypeId×Value→H) (W:World) (fuel:Nat) (cs:List Value) (x:DataW H×List MemPlace),DataW.trod enc Try.prog W 0 (fun _=>true) true fuel t cs=some x→∃ y,R false 0 W.heap.size W cs y
theorem cells_at {w:World} {base:Nat} {a:Addr} {k:Nat} {cs:List Value} (h:w.cells? base a k=some cs):cs.length=k∧∀ j,j<k→w.cell? (a.add j)=some (cs.getD j undef):=by
 obtain ⟨_,hlen,hc⟩:=World.cells?_some h
 exact ⟨hlen,fun j hj=>by
  have:=hc j (by omega)
  simpa [List.getD,List.getElem?_eq_getElem (show j<cs.length by omega)] using this⟩
theorem reads_slice {α:Type} {R:Rep α} {t e k:Nat} (ht:Try.prog.underlying t=some (.slice e)) (hk:Try.prog.cellsOf e=k) (hk0:0<k) (hR:ReadsBy R e) :
 ∀ {H:Type} (enc:TypeId×Value→H) (W:World) (fuel:Nat) (cs:List Value) (x:DataW H×List MemPlace),DataW.trod enc Try.prog W 0 (fun _=>true) true fuel t cs=some x →
  ∃ a n c xs,cs=[.slice a n c]∧SlA k R false 0 W.heap.size W a n c xs:=by
 intro H enc W fuel cs x h
 rcases open_slice ht h with ⟨hcs,_⟩ | ⟨a,len,cap,m,n,D,Pl,rfl,_,hl,hm,hmm,_,hx⟩
 ·exact ⟨none,0,0,[],hcs,rfl,Nat.le_refl _,by simp [maxLen],fun h=>by omega,fun _=>rfl⟩
 ·simp only [if_true] at hmm
  subst hmm
  rw [hk] at hx
  have each:∀ i,i<m→∃ y:List Value×α,y.1.length=k∧R false 0 W.heap.size W y.1 y.2∧∀ j,j<k→W.cell? ((a.add (i*k)).add j)=some (y.1.getD j undef):=by
   intro i hi
   obtain ⟨cs',h1,h2⟩:=hx i hi
   obtain ⟨y,hy⟩:=hR enc W n cs' _ h2
   obtain ⟨g1,g2⟩:=cells_at h1
   exact ⟨(cs',y),g1,hy,g2⟩
  refine ⟨some a,len,m,?_⟩
  by_cases hm0:m=0
  ·refine ⟨[],rfl,?_,hl,hm,fun h=>by omega,fun h=>(by cases h)⟩
   simp;omega
  ·haveI:Inhabited α:=⟨(Classical.choose (each 0 (by omega))).2⟩
   obtain ⟨y,hy⟩:=choose_lt each
   obtain ⟨b,off,spot⟩:=a
   have h1:=(hy 0 (by omega)).2.2 0 hk0
   have hspot:spot=none:=by
    cases spot with
    | none=>rfl
    | some s=>simp [Addr.add,World.cell?] at h1;split at h1 <;> simp at h1
   subst hspot
   have hblk:=World.block_lt_of_cell? W _ h1
   refine ⟨(List.range len).map fun i=>(y i).2,rfl,by simp,hl,hm,fun hn=>⟨b,off,rfl,Nat.zero_le _,by simpa [Addr.add] using hblk,fun i hi=>?_⟩,fun h=>(by cases h)⟩
   obtain ⟨g1,g2,g3⟩:=hy i (by omega)
   refine ⟨(y i).1,(y i).2,g1,by simp [hi],g2,fun j hj=>⟨?_,fun h=>(by cases h)⟩⟩
   have:=g3 j hj
   rwa [Addr.add_lit,Addr.add_lit] at this
end Go.Proofs.Ytfobmfngbfbfdaa
namespace Go.Proofs.Ytfobmfngbfbfdaa
set_option linter.unusedSimpArgs false
set_option linter.unusedVariables false
open Go.ChangeShapes Go.WideShapes Go.ChangeAt Go.RowKit Go.Deep
def byteR:Rep Int:=fun _ _ _ _ cs x=>cs=[.int .u8 x]∧0≤x∧x≤255
abbrev BytesA:=SlA 1 byteR
theorem u8_of_wf {x:Int} (h:(Lit.int .u8 x).wf=true):0≤x∧x≤255:=by
 simp [Lit.wf,IntKind.min,IntKind.max,IntKind.bits,IntKind.signed] at h
 omega
theorem cellsU8:Try.prog.cellsOf 5=1:=by kernel_rfl
theorem reads_byte:ReadsBy byteR 5:=by
 intro H enc W fuel cs x h
 obtain ⟨n,rfl,_,hw⟩:=DataW.trod_int Try.underlying5 h
 exact ⟨n,rfl,u8_of_wf hw⟩
theorem reads_bytes {H:Type} (enc:TypeId×Value→H) (W:World) (fuel:Nat) (cs:List Value) (x:DataW H×List MemPlace) (h:DataW.trod enc Try.prog W 0 (fun _=>true) true fuel 22 cs=some x) :
 ∃ a n c xs,cs=[.slice a n c]∧BytesA false 0 W.heap.size W a n c xs:=reads_slice Try.underlying22 cellsU8 (by omega) reads_byte enc W fuel cs x h
theorem bytes_cx {C:Nat→Nat→Prop} {fz:Bool} {lo hi:Nat} {w:World} {a:Option Addr} {n c:Nat} {xs:List Int} (h:BytesA fz lo hi w a n c xs) (hC:∀ b i,lo≤b→b<hi→C b i):CX C w (.sl 1 (xs.map .byte)) [.slice a n c]:=by
 have h1:=h.len
 obtain ⟨_,h2,h3,h4,h5⟩:=h
 have key:0<n→∃ b off,a=some ⟨b,off,none⟩∧lo≤b∧b<hi∧∀ i (hi':i<xs.length),(0≤xs[i]∧xs[i]≤255)∧w.cell? ⟨b,off+i,none⟩=some (.int .u8 xs[i]):=fun hn=>by
  obtain ⟨b,off,ha,hl,hb,hc⟩:=h4 hn
  refine ⟨b,off,ha,hl,hb,fun i hi'=>?_⟩
  obtain ⟨cs,x,g1,g2,⟨rfl,g3⟩,g4⟩:=hc i (by omega)
  rw [List.getElem?_eq_getElem hi'] at g2
  cases g2
  exact ⟨g3,by simpa using (g4 0 (by omega)).1⟩
 refine ⟨a,n,c,xs.map (fun x=>Value.int .u8 x),rfl,by simpa using h1,CXk.singles.2 ⟨by simp,fun i x hx=>?_⟩,by simp [h1],h2,h3,h5,?_,fun hn=>?_⟩
 ·rw [List.getElem?_map] at hx
  cases e:xs[i]? with
  | none=>rw [e] at hx;cases hx
  | some y =>
   rw [e] at hx;cases hx
   have hi':=(List.getElem?_eq_some_iff.1 e).1
   obtain ⟨b,off,_,_,_,hk⟩:=key (by omega)
   have hy:xs[i]=y:=(List.getElem?_eq_some_iff.1 e).2
   have:=(hk i hi').1
   rw [hy] at this
   exact ⟨.int .u8 y,by rw [List.getElem?_map,e];rfl,rfl,this⟩
 ·intro u hu
  obtain ⟨y,_,rfl⟩:=List.mem_map.1 hu
  rfl
 ·obtain ⟨b,off,ha,hl,hb,hk⟩:=key hn
  refine ⟨b,off,ha,fun i u hu=>⟨hC _ _ hl hb,?_⟩⟩
  rw [List.getElem?_map] at hu
  cases e:xs[i]? with
  | none=>rw [e] at hu;cases hu
  | some y =>
   rw [e] at hu;cases hu
   obtain ⟨hi',hy⟩:=List.getElem?_eq_some_iff.1 e
   have:=(hk i hi').2
   rw [hy] at this
   exact this
end Go.Proofs.Ytfobmfngbfbfdaa
