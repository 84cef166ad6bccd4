/- Lemmas for the proof of FnExactAtomSizes, part 9 of 19: no condition of their own. -/
import Derived.Test.YtlpdbkhekbdceaaJ2
import Derived.Test.YtlpdbkhekbdceaaJ1
import Derived.Test.YtlpdbkhekbdceaaJ8
namespace Go.Proofs.Ytlpdbkhekbdceaa
set_option linter.unusedSimpArgs false
set_option linter.unusedVariables false
open Go.RowKit
set_option maxHeartbeats 3200000 in
theorem specValidRel {fz:Bool} {lo hi:Nat} (ar:Int) (a:Option Addr) (n c:Nat) (rows:List (List Int)) (w:World) (hI:RowsA fz lo hi w a n c rows) (hh:hi≤w.heap.size) (har:I64 ar) :
 Calls Try.prog 58 #[trieV ar a n c] w (Leaves w (.bool (validR ar rows))):=by
 have HAR:=hid har;clear har
 have hl:=hI.len
 have hs:=hI.small
 have HL:=hid hl;clear hl
 by_cases hw:0≤ar∧ar≤5
 ·have hd:decide (0≤ar∧ar≤5)=true:=by simpa using hw
  by_cases hn:n≤4000
  ·go_enter Try.func58,Try.ntmps58
   go_wp2_with fail
   refine (specIn ar 0 5 _).mono ?_
   rintro e w1 ⟨rfl,m1,hw1⟩
   rw [hd]
   have hc0:w1.cell? ⟨w.heap.size,0,none⟩=some (.int .i64 ar):=by rw [hw1];simp
   have hc1:w1.cell? ⟨w.heap.size,1,none⟩=some (.slice a n c):=by rw [hw1];simp
   have hb1:Below w.heap.size w w1:=by rw [hw1];exact belA
   have hI1:=hI.be intsOK hb1 hh
   have HB:=hid (And.intro hb1 hI1);clear hw1 hI1 hb1
   go_wp2_with fail
   go_loopw [3] (fun i wr=>∃ k:Nat,i=.int .i64 k∧k≤n∧Hid (∀ i,i<k→RowOK ar rows i)∧Hid (∃ m,wr=w1.drewN m)) (fun i _=>n - (intOf i).toNat)
   case atStart=>exact ⟨0,rfl,by omega,hid (fun i hi=>by omega),hid ⟨0,rfl⟩⟩
   case round =>
    obtain ⟨k,rfl,hk,HT,HD⟩:=hrel
    have hc0r:wr.cell? ⟨w.heap.size,0,none⟩=some (.int .i64 ar):=by obtain ⟨m,rfl⟩:=HD.out;exact hc0
    have hc1r:wr.cell? ⟨w.heap.size,1,none⟩=some (.slice a n c):=by obtain ⟨m,rfl⟩:=HD.out;exact hc1
    have hbr:∀ q,Below w.heap.size w (wr.drewN q):=by obtain ⟨m,rfl⟩:=HD.out;intro q;exact below_drewN (below_drewN HB.out.1 m) q
    have HBR:=hid hbr;clear hbr
    by_cases hlt:k<n
    ·have hIr:RowsA fz lo hi wr a n c rows:=HB.out.2.keep intsOK (keeps_dr lo hi HD.out)
     obtain ⟨b,off,rfl⟩:=hI.some (by omega)
     obtain ⟨_,_,ra,rn,rc,hc,hr,_⟩:=hIr.at hlt
     have hrl:=hr.len
     have hrs:=hr.small
     have HRL:=hid hrl;clear hrl
     have HR:=hid hr;clear hr
     have HI:=hid hI;clear hI
     by_cases he:(rn:Int)=ar
     ·have hb:((rn:Int) != ar)=false:=by simp [he]
      have HE:=hid he;clear he
      obtain ⟨vb,hvb⟩:∃ vb,valB (rx rows k)=vb:=⟨_,rfl⟩
      have HVB:=hid hvb;clear hvb
      have hcV:∀ w',IntsA fz lo hi w' ra rn rc (rx rows k)→Calls Try.prog 59 #[.slice ra rn rc] w' (Gives w' (.bool vb)):=fun w' h=>by have:=specVals ra rn rc _ w' h;rwa [HVB.out] at this
      have HCV:=hid hcV;clear hcV
      cases vb with
      | false =>
       have HF:=hid (validR_row (ar:=ar) (rows:=rows) (i:=k) (by rw [HL.out];exact hlt) (by rintro ⟨_,h2,_⟩;rw [HVB.out] at h2;cases h2))
       have HIR:=hid hIr;clear hIr
       go_wp2_with fail
       go_quiet ((go_at_call 59;exact (Calls.quiet_of (HCV.out _ (HR.out.drewN _)))))
       go_wp2_with fail
       go_ret
       exact ⟨by rw [HF.out];rfl,HBR.out _⟩
      | true =>
       by_cases h0:k=0
       ·have HT2:Hid (∀ i,i<k+1→RowOK ar rows i):=hid (fun i hi=>by
         obtain rfl:i=k:=by omega
         exact ⟨by rw [HRL.out];exact HE.out,HVB.out,fun h=>by omega⟩)
        have HIR:=hid hIr;clear hIr
        have h0':decide ((0:Int)<k)=false:=by simp;omega
        have h0'':¬ 0<k:=by omega
        have H0:=hid h0;clear h0
        go_wp2_with fail
        go_quiet ((go_at_call 59;exact (Calls.quiet_of (HCV.out _ (HR.out.drewN _)))))
        go_wp2_with fail
        go_roundw
        case rel=>exact ⟨k+1,by go_num,by omega,HT2,hid (by first | exact HD.out | exact dr_more HD.out _ | (rw [dd];exact dr_more HD.out _) | (rw [dd,dd];exact dr_more HD.out _) | exact ⟨_,rfl⟩ | exact ⟨_,dd⟩)⟩
        case measure=>simp [intOf];omega
       ·obtain ⟨j,rfl⟩:∃ j,k=j+1:=⟨k - 1,by omega⟩
        obtain ⟨_,_,qa,qn,qc,hcq,hq,_⟩:=hIr.at (show j<n by omega)
        have HQ:=hid hq;clear hq
        have HIR:=hid hIr;clear hIr
        clear h0
        obtain ⟨d,hde⟩:∃ d,cmpR (rx rows j) (rx rows (j+1))=d:=⟨_,rfl⟩
        have HDE:=hid hde;clear hde
        have hcC:∀ w',IntsA fz lo hi w' qa qn qc (rx rows j)→IntsA fz lo hi w' ra rn rc (rx rows (j+1))→Calls Try.prog 72 #[.slice qa qn qc,.slice ra rn rc] w' (Gives w' (.int .i64 d)):=fun w' h h'=>by have:=specCmpR qa ra qn qc rn rc _ _ w' h h';rwa [HDE.out] at this
        have HCC:=hid hcC;clear hcC
        have h0':decide ((0:Int)<(j:Int)+1)=true:=by simp
        have h0'':IntKind.i64.wrap ((j:Int)+1 - 1)=j:=by rw [show (j:Int)+1 - 1=j by omega];exact IntWalk.i64_in _ (by omega)
        by_cases hd0:d<0
        ·have HT2:Hid (∀ i,i<j+1+1→RowOK ar rows i):=hid (fun i hi=>by
          by_cases e:i=j+1
          ·subst e;exact ⟨by rw [HRL.out];exact HE.out,HVB.out,fun _=>by show cmpR (rx rows j) _<0;rw [HDE.out];exact hd0⟩
          ·exact HT.out i (by omega))
         go_wp2_with fail
         go_quiet (first
          | (go_at_call 59;exact (Calls.quiet_of (HCV.out _ (HR.out.drewN _))))
          | (go_at_call 72;exact (Calls.quiet_of (HCC.out _ (HQ.out.drewN _) (HR.out.drewN _)))))
         go_wp2_with fail
         go_roundw
         case rel=>exact ⟨j+1+1,by go_num,by omega,HT2,hid (by first | exact HD.out | exact dr_more HD.out _ | (rw [dd];exact dr_more HD.out _) | (rw [dd,dd];exact dr_more HD.out _) | exact ⟨_,rfl⟩ | exact ⟨_,dd⟩)⟩
         case measure=>simp [intOf];omega
        ·have HF:=hid (validR_row (ar:=ar) (rows:=rows) (i:=j+1) (by rw [HL.out];exact hlt) (by rintro ⟨_,_,h2⟩;have:=h2 (by omega);simp only [Nat.add_sub_cancel] at this;rw [HDE.out] at this;exact hd0 this))
         go_wp2_with fail
         go_quiet (first
          | (go_at_call 59;exact (Calls.quiet_of (HCV.out _ (HR.out.drewN _))))
          | (go_at_call 72;exact (Calls.quiet_of (HCC.out _ (HQ.out.drewN _) (HR.out.drewN _)))))
         go_wp2_with fail
         go_ret
         exact ⟨by rw [HF.out];rfl,HBR.out _⟩
     ·have hb:((rn:Int) != ar)=true:=by simp [he]
      have HF:=hid (validR_row (ar:=ar) (rows:=rows) (i:=k) (by rw [HL.out];exact hlt) (by rintro ⟨h2,_⟩;rw [HRL.out] at h2;exact he h2))
      have HE:=hid he;clear he
      have HIR:=hid hIr;clear hIr
      go_wp2_with fail
      go_quiet (fail)
      go_wp2_with fail
      go_ret
      exact ⟨by rw [HF.out];rfl,HBR.out _⟩
    ·have HF:=hid (validR_true (ar:=ar) (rows:=rows) hw (by rw [HL.out];exact hn) (by rw [HL.out];intro i hi;exact HT.out i (by omega)))
     go_wp2_with fail
     go_ret
     exact ⟨by rw [HF.out];rfl,HBR.out 0⟩
  ·have HF:=hid (validR_big (ar:=ar) (rows:=rows) (by rw [HL.out];exact hn))
   go_enter Try.func58,Try.ntmps58
   go_wp2_with fail
   refine (specIn ar 0 5 _).mono ?_
   rintro e w1 ⟨rfl,m1,rfl⟩
   rw [hd]
   go_wp2_with fail
   go_ret
   exact ⟨by rw [HF.out];rfl,belA⟩
 ·have hd:decide (0≤ar∧ar≤5)=false:=by simpa using hw
  have HF:=hid (validR_ar (rows:=rows) hw)
  go_enter Try.func58,Try.ntmps58
  go_wp2_with fail
  refine (specIn ar 0 5 _).mono ?_
  rintro e w1 ⟨rfl,m1,rfl⟩
  rw [hd]
  go_wp2_with fail
  go_ret
  exact ⟨by rw [HF.out];rfl,belA⟩
end Go.Proofs.Ytlpdbkhekbdceaa
namespace Go.Proofs.Ytlpdbkhekbdceaa
set_option linter.unusedSimpArgs false
set_option linter.unusedVariables false
open Go.RowKit
theorem cmpR_rng:∀ (a b:List Int),cmpR a b = -1∨cmpR a b=0∨cmpR a b=1
 | [],[]=>by simp [cmpR]
 | [],_ :: _=>by simp [cmpR]
 | _ :: _,[]=>by simp [cmpR]
 | x :: a,y :: b=>by
  simp only [cmpR]
  split
  ·exact cmpR_rng a b
  ·unfold cmpI
   split
   ·exact .inl rfl
   ·split
    ·exact .inr (.inr rfl)
    ·exact .inr (.inl rfl)
theorem cmpR_zero:∀ {a b:List Int},cmpR a b=0↔a=b
 | [],[]=>by simp [cmpR]
 | [],_ :: _=>by simp [cmpR]
 | _ :: _,[]=>by simp [cmpR]
 | x :: a,y :: b=>by
  simp only [cmpR]
  split
  ·rename_i e;rw [cmpR_zero,e];simp
  ·rename_i e
   unfold cmpI
   constructor
   ·intro h
    split at h
    ·omega
    ·split at h <;> omega
   ·intro h
    exact absurd (List.cons.inj h).1 e
theorem cmpR_self (a:List Int):cmpR a a=0:=cmpR_zero.2 rfl
theorem cmpR_tr:∀ {a b c:List Int},a.length=b.length→b.length=c.length→cmpR a b≤0→cmpR b c≤0→cmpR a c≤0∧(cmpR a b<0∨cmpR b c<0→cmpR a c<0)
 | [],[],[],_,_,_,_=>by simp [cmpR]
 | x :: a,y :: b,z :: c,h1,h2,h3,h4=>by
  simp only [List.length_cons,Nat.add_right_cancel_iff] at h1 h2
  simp only [cmpR,cmpI] at h3 h4 ⊢
  by_cases e1:x=y
  ·subst e1
   rw [if_pos rfl] at h3 ⊢
   by_cases e2:x=z
   ·subst e2
    rw [if_pos rfl] at h4 ⊢
    rw [if_pos rfl]
    exact cmpR_tr h1 h2 h3 h4
   ·rw [if_neg e2] at h4 ⊢
    rw [if_neg e2]
    split at h4
    ·rename_i hlt;rw [if_pos hlt];omega
    ·split at h4 <;> omega
  ·rw [if_neg e1] at h3 ⊢
   have hxy:x<y:=by
    split at h3
    ·assumption
    ·split at h3 <;> omega
   by_cases e2:y=z
   ·subst e2
    rw [if_neg e1,if_pos hxy]
    omega
   ·rw [if_neg e2] at h4
    have hyz:y<z:=by
     split at h4
     ·assumption
     ·split at h4 <;> omega
    rw [if_neg (by omega),if_pos (show x<z by omega)]
    omega
theorem cmpI_anti (x y:Int):cmpI y x = - cmpI x y:=by
 unfold cmpI
 split <;> split <;> first | omega | (split <;> omega) | skip
theorem cmpR_anti:∀ a b:List Int,cmpR b a = - cmpR a b
 | [],[]=>by simp [cmpR]
 | [],_ :: _=>by simp [cmpR]
 | _ :: _,[]=>by simp [cmpR]
 | x :: a,y :: b=>by
  simp only [cmpR]
  by_cases e:x=y
  ·rw [if_pos e,if_pos e.symm];exact cmpR_anti a b
  ·rw [if_neg e,if_neg (fun h=>e h.symm)];exact cmpI_anti x y
def Asc (rows:List (List Int)):Prop:=rows.Pairwise (fun a b=>cmpR a b<0)
def SameL (n:Nat) (rows:List (List Int)):Prop:=∀ x∈rows,x.length=n
theorem cmpR_lt_tr {a b c:List Int} {n:Nat} (ha:a.length=n) (hb:b.length=n) (hc:c.length=n) (h1:cmpR a b<0) (h2:cmpR b c≤0):cmpR a c<0:=(cmpR_tr (by omega) (by omega) (by omega) h2).2 (.inl h1)
theorem cmpR_lt_tr2 {a b c:List Int} {n:Nat} (ha:a.length=n) (hb:b.length=n) (hc:c.length=n) (h1:cmpR a b≤0) (h2:cmpR b c<0):cmpR a c<0:=(cmpR_tr (by omega) (by omega) h1 (by omega)).2 (.inr h2)
def insR (x:List Int):List (List Int)→List (List Int)
 | []=>[x]
 | y :: l=>if cmpR x y<0 then x :: y :: l else if cmpR x y=0 then y :: l else y :: insR x l
def srt:List (List Int)→List (List Int)
 | []=>[]
 | x :: l=>insR x (srt l)
theorem mem_insR {x z:List Int}:∀ {l:List (List Int)},z∈insR x l↔z=x∨z∈l
 | []=>by simp [insR]
 | y :: l=>by
  simp only [insR]
  split
  ·simp
  ·split
   ·rename_i h
    have:=cmpR_zero.1 h
    subst this
    simp
   ·rw [List.mem_cons,mem_insR,List.mem_cons]
    constructor
    ·rintro (h | h | h)
     ·exact .inr (.inl h)
     ·exact .inl h
     ·exact .inr (.inr h)
    ·rintro (h | h | h)
     ·exact .inr (.inl h)
     ·exact .inl h
     ·exact .inr (.inr h)
theorem mem_srt {z:List Int}:∀ {l:List (List Int)},z∈srt l↔z∈l
 | []=>by simp [srt]
 | x :: l=>by simp only [srt];rw [mem_insR,mem_srt,List.mem_cons]
theorem SameL.srt {n:Nat} {l:List (List Int)} (h:SameL n l):SameL n (srt l):=fun x hx=>h x (mem_srt.1 hx)
theorem asc_insR {n:Nat} {x:List Int} (hx:x.length=n):∀ {l:List (List Int)},SameL n l→Asc l→Asc (insR x l)
 | [],_,_=>by simp [insR,Asc]
 | y :: l,hl,h=>by
  have h1:=List.pairwise_cons.1 h
  have hy:=hl y (List.mem_cons_self ..)
  simp only [insR]
  split
  ·rename_i hlt
   refine List.pairwise_cons.2 ⟨fun z hz=>?_,h⟩
   rcases List.mem_cons.1 hz with rfl | hz'
   ·exact hlt
   ·exact cmpR_lt_tr hx hy (hl z hz) hlt (by have:=h1.1 z hz';omega)
  ·split
   ·exact h
   ·rename_i h2 h3
    refine List.pairwise_cons.2 ⟨fun z hz=>?_,asc_insR hx (fun z hz=>hl z (List.mem_cons_of_mem _ hz)) h1.2⟩
    rcases mem_insR.1 hz with rfl | hz'
    ·have:=cmpR_anti z y;omega
    ·exact h1.1 z hz'
theorem asc_srt {n:Nat}:∀ {l:List (List Int)},SameL n l→Asc (srt l)
 | [],_=>by simp [srt,Asc]
 | x :: l,h=>asc_insR (h x (List.mem_cons_self ..)) (SameL.srt fun z hz=>h z (List.mem_cons_of_mem _ hz)) (asc_srt fun z hz=>h z (List.mem_cons_of_mem _ hz))
theorem asc_uniq:∀ {a b:List (List Int)},Asc a→Asc b→(∀ x,x∈a↔x∈b)→a=b
 | [],[],_,_,_=>rfl
 | [],y :: b,_,_,h=>by have:=(h y).2 (List.mem_cons_self ..);simp at this
 | x :: a,[],_,_,h=>by have:=(h x).1 (List.mem_cons_self ..);simp at this
 | x :: a,y :: b,ha,hb,h=>by
  have h1:=List.pairwise_cons.1 ha
  have h2:=List.pairwise_cons.1 hb
  have e:x=y:=by
   rcases List.mem_cons.1 ((h x).1 (List.mem_cons_self ..)) with e | e
   ·exact e
   ·rcases List.mem_cons.1 ((h y).2 (List.mem_cons_self ..)) with e' | e'
    ·exact e'.symm
    ·have g1:=h1.1 y e';have g2:=h2.1 x e;have:=cmpR_anti x y;omega
  subst e
  have hna:x ∉ a:=fun hx=>by have:=h1.1 x hx;rw [cmpR_self] at this;omega
  have hnb:x ∉ b:=fun hx=>by have:=h2.1 x hx;rw [cmpR_self] at this;omega
  rw [asc_uniq h1.2 h2.2 fun z=>?_]
  constructor
  ·intro hz
   rcases List.mem_cons.1 ((h z).1 (List.mem_cons_of_mem _ hz)) with rfl | h'
   ·exact absurd hz hna
   ·exact h'
  ·intro hz
   rcases List.mem_cons.1 ((h z).2 (List.mem_cons_of_mem _ hz)) with rfl | h'
   ·exact absurd hz hnb
   ·exact h'
theorem srt_eq {n:Nat} {l out:List (List Int)} (hl:SameL n l) (h1:Asc out) (h2:∀ x,x∈out↔x∈l):srt l=out:=asc_uniq (asc_srt hl) h1 fun x=>by rw [mem_srt,h2]
theorem insR_len (x:List Int):∀ l:List (List Int),(insR x l).length≤l.length+1
 | []=>by simp [insR]
 | y :: l=>by
  simp only [insR]
  split
  ·simp
  ·split
   ·simp
   ·have:=insR_len x l;simp only [List.length_cons];omega
theorem srt_len:∀ l:List (List Int),(srt l).length≤l.length
 | []=>by simp [srt]
 | x :: l=>by have:=insR_len x (srt l);have:=srt_len l;simp only [srt,List.length_cons];omega
theorem srt_small {l:List (List Int)} (h:l.length<2):srt l=l:=by
 match l,h with
 | [],_=>rfl
 | [x],_=>rfl
theorem asc_snoc {out:List (List Int)} {x:List Int} (h:Asc out) (hx:∀ y∈out,cmpR y x<0):Asc (out ++ [x]):=by
 unfold Asc
 rw [List.pairwise_append]
 exact ⟨h,by simp,fun y hy z hz=>by rw [List.mem_singleton.1 hz];exact hx y hy⟩
structure Mrg (q:Nat) (l a b out:List (List Int)):Prop where
 aa:Asc a
 ab:Asc b
 ao:Asc out
 lt:∀ x∈out,∀ y,y∈a∨y∈b→cmpR x y<0
 mem:∀ x,(x∈out∨x∈a∨x∈b)↔x∈l
 same:SameL q l
 len:out.length+a.length+b.length≤l.length
theorem Mrg.start {q:Nat} {l:List (List Int)} (h:SameL q l) (m:Nat):Mrg q l (srt (l.take m)) (srt (l.drop m)) []:=by
 have h1:SameL q (l.take m):=fun x hx=>h x (List.mem_of_mem_take hx)
 have h2:SameL q (l.drop m):=fun x hx=>h x (List.mem_of_mem_drop hx)
 refine ⟨asc_srt h1,asc_srt h2,by simp [Asc],by simp,fun x=>?_,h,?_⟩
 ·rw [mem_srt,mem_srt]
  have e:x∈l↔x∈l.take m∨x∈l.drop m:=by rw [← List.mem_append,List.take_append_drop]
  rw [e];simp
 ·have g1:=srt_len (l.take m);have g2:=srt_len (l.drop m)
  simp only [List.length_take,List.length_drop] at g1 g2
  simp only [List.length_nil];omega
theorem Mrg.fin {q:Nat} {l out:List (List Int)} (h:Mrg q l [] [] out):srt l=out:=srt_eq h.same h.ao fun x=>by rw [← h.mem x];simp
theorem Mrg.sa {q:Nat} {l a b out:List (List Int)} (h:Mrg q l a b out):SameL q a:=fun x hx=>h.same x ((h.mem x).1 (.inr (.inl hx)))
theorem Mrg.sb {q:Nat} {l a b out:List (List Int)} (h:Mrg q l a b out):SameL q b:=fun x hx=>h.same x ((h.mem x).1 (.inr (.inr hx)))
theorem Mrg.swap {q:Nat} {l a b out:List (List Int)} (h:Mrg q l a b out):Mrg q l b a out :=
 ⟨h.ab,h.aa,h.ao,fun x hx y hy=>h.lt x hx y hy.symm,fun x=>by rw [← h.mem x];constructor <;> (rintro (h | h | h) <;> simp [h]),h.same,by have:=h.len;omega⟩
theorem Mrg.left {q:Nat} {l a b out:List (List Int)} {x:List Int} (h:Mrg q l (x :: a) b out) (hx:∀ y,b.head? = some y→cmpR x y<0):Mrg q l a b (out ++ [x]):=by
 have h1:=List.pairwise_cons.1 h.aa
 refine ⟨h1.2,h.ab,asc_snoc h.ao fun y hy=>h.lt y hy x (.inl (List.mem_cons_self ..)),fun z hz y hy=>?_,fun z=>?_,h.same,by have:=h.len;simp at this ⊢;omega⟩
 ·rcases List.mem_append.1 hz with hz | hz
  ·exact h.lt z hz y (hy.imp (fun h=>List.mem_cons_of_mem _ h) id)
  ·rw [List.mem_singleton] at hz
   subst hz
   rcases hy with hy | hy
   ·exact h1.1 y hy
   ·cases b with
    | nil=>cases hy
    | cons w b =>
     have h2:=hx w rfl
     rcases List.mem_cons.1 hy with rfl | hy'
     ·exact h2
     ·exact cmpR_lt_tr (h.sa z (List.mem_cons_self ..)) (h.sb w (List.mem_cons_self ..)) (h.sb y hy) h2 (by have:=(List.pairwise_cons.1 h.ab).1 y hy';omega)
 ·rw [← h.mem z];simp only [List.mem_append,List.mem_cons,List.not_mem_nil,or_false]
  constructor
  ·rintro ((h | h) | h | h)
   ·exact .inl h
   ·exact .inr (.inl (.inl h))
   ·exact .inr (.inl (.inr h))
   ·exact .inr (.inr h)
  ·rintro (h | (h | h) | h)
   ·exact .inl (.inl h)
   ·exact .inl (.inr h)
   ·exact .inr (.inl h)
   ·exact .inr (.inr h)
theorem Mrg.both {q:Nat} {l a b out:List (List Int)} {x:List Int} (h:Mrg q l (x :: a) (x :: b) out):Mrg q l a b (out ++ [x]):=by
 have h1:=List.pairwise_cons.1 h.aa
 have h2:=List.pairwise_cons.1 h.ab
 refine ⟨h1.2,h2.2,asc_snoc h.ao fun y hy=>h.lt y hy x (.inl (List.mem_cons_self ..)),fun z hz y hy=>?_,fun z=>?_,h.same,by have:=h.len;simp at this ⊢;omega⟩
 ·rcases List.mem_append.1 hz with hz | hz
  ·exact h.lt z hz y (hy.imp (fun h=>List.mem_cons_of_mem _ h) (fun h=>List.mem_cons_of_mem _ h))
  ·rw [List.mem_singleton] at hz
   subst hz
   rcases hy with hy | hy
   ·exact h1.1 y hy
   ·exact h2.1 y hy
 ·rw [← h.mem z];simp only [List.mem_append,List.mem_cons,List.not_mem_nil,or_false]
  constructor
  ·rintro ((h | h) | h | h)
   ·exact .inl h
   ·exact .inr (.inl (.inl h))
   ·exact .inr (.inl (.inr h))
   ·exact .inr (.inr (.inr h))
  ·rintro (h | (h | h) | (h | h))
   ·exact .inl (.inl h)
   ·exact .inl (.inr h)
   ·exact .inr (.inl h)
   ·exact .inl (.inr h)
   ·exact .inr (.inr h)
structure Mrg2 (q:Nat) (l a b out:List (List Int)):Prop where
 aa:Asc a
 ab:Asc b
 ao:Asc out
 le:∀ x∈out,∀ y,y∈a∨y∈b→cmpR x y≤0
 mem:∀ x,(x∈out∨x∈a∨x∈b)↔x∈l
 same:SameL q l
 len:out.length+a.length+b.length≤l.length
theorem Mrg2.start {q:Nat} {l:List (List Int)} (h:SameL q l) (m:Nat):Mrg2 q l (srt (l.take m)) (srt (l.drop m)) []:=by
 have:=Mrg.start h m
 exact ⟨this.aa,this.ab,this.ao,by simp,this.mem,this.same,this.len⟩
theorem Mrg2.fin {q:Nat} {l out:List (List Int)} (h:Mrg2 q l [] [] out):srt l=out:=srt_eq h.same h.ao fun x=>by rw [← h.mem x];simp
theorem Mrg2.sa {q:Nat} {l a b out:List (List Int)} (h:Mrg2 q l a b out):SameL q a:=fun x hx=>h.same x ((h.mem x).1 (.inr (.inl hx)))
theorem Mrg2.sb {q:Nat} {l a b out:List (List Int)} (h:Mrg2 q l a b out):SameL q b:=fun x hx=>h.same x ((h.mem x).1 (.inr (.inr hx)))
theorem Mrg2.so {q:Nat} {l a b out:List (List Int)} (h:Mrg2 q l a b out):SameL q out:=fun x hx=>h.same x ((h.mem x).1 (.inl hx))
theorem Mrg2.swap {q:Nat} {l a b out:List (List Int)} (h:Mrg2 q l a b out):Mrg2 q l b a out :=
 ⟨h.ab,h.aa,h.ao,fun x hx y hy=>h.le x hx y hy.symm,fun x=>by rw [← h.mem x];constructor <;> (rintro (h | h | h) <;> simp [h]),h.same,by have:=h.len;omega⟩
theorem Mrg2.skip {q:Nat} {l a b out:List (List Int)} {x:List Int} (h:Mrg2 q l (x :: a) b out) (hx:x∈out):Mrg2 q l a b out:=by
 have h1:=List.pairwise_cons.1 h.aa
 refine ⟨h1.2,h.ab,h.ao,fun z hz y hy=>h.le z hz y (hy.imp (fun h=>List.mem_cons_of_mem _ h) id),fun z=>?_,h.same,by have:=h.len;simp at this ⊢;omega⟩
 rw [← h.mem z];simp only [List.mem_cons]
 constructor
 ·rintro (h | h | h)
  ·exact .inl h
  ·exact .inr (.inl (.inr h))
  ·exact .inr (.inr h)
 ·rintro (h | (h | h) | h)
  ·exact .inl h
  ·subst h;exact .inl hx
  ·exact .inr (.inl h)
  ·exact .inr (.inr h)
theorem Mrg2.left {q:Nat} {l a b out:List (List Int)} {x:List Int} (h:Mrg2 q l (x :: a) b out) (hx:∀ y,b.head? = some y→cmpR x y≤0) (ho:∀ y∈out,cmpR y x<0):Mrg2 q l a b (out ++ [x]):=by
 have h1:=List.pairwise_cons.1 h.aa
 refine ⟨h1.2,h.ab,asc_snoc h.ao ho,fun z hz y hy=>?_,fun z=>?_,h.same,by have:=h.len;simp at this ⊢;omega⟩
 ·rcases List.mem_append.1 hz with hz | hz
  ·exact h.le z hz y (hy.imp (fun h=>List.mem_cons_of_mem _ h) id)
  ·rw [List.mem_singleton] at hz
   subst hz
   rcases hy with hy | hy
   ·have:=h1.1 y hy;omega
   ·cases b with
    | nil=>cases hy
    | cons w b =>
     have h2:=hx w rfl
     rcases List.mem_cons.1 hy with rfl | hy'
     ·exact h2
     ·have:=cmpR_lt_tr2 (h.sa z (List.mem_cons_self ..)) (h.sb w (List.mem_cons_self ..)) (h.sb y hy) h2 ((List.pairwise_cons.1 h.ab).1 y hy')
      omega
 ·rw [← h.mem z];simp only [List.mem_append,List.mem_cons,List.not_mem_nil,or_false]
  constructor
  ·rintro ((h | h) | h | h)
   ·exact .inl h
   ·exact .inr (.inl (.inl h))
   ·exact .inr (.inl (.inr h))
   ·exact .inr (.inr h)
  ·rintro (h | (h | h) | h)
   ·exact .inl (.inl h)
   ·exact .inl (.inr h)
   ·exact .inr (.inl h)
   ·exact .inr (.inr h)
theorem Mrg2.less {q:Nat} {l a b out:List (List Int)} {x z:List Int} (h:Mrg2 q l (x :: a) b (out ++ [z])) (hz:cmpR z x ≠ 0):∀ y∈out ++ [z],cmpR y x<0:=fun y hy=>by
 have hzx:=h.le z (by simp) x (.inl (List.mem_cons_self ..))
 rcases List.mem_append.1 hy with hy' | hy'
 ·have h1:=(List.pairwise_append.1 h.ao).2.2 y hy' z (by simp)
  exact cmpR_lt_tr (h.so y hy) (h.so z (by simp)) (h.sa x (List.mem_cons_self ..)) h1 hzx
 ·rw [List.mem_singleton] at hy'
  subst hy';omega
end Go.Proofs.Ytlpdbkhekbdceaa
namespace Go.Proofs.Ytlpdbkhekbdceaa
set_option linter.unusedSimpArgs false
set_option linter.unusedVariables false
open Go.RowKit
theorem cv_rows {G:Gh} {w:World} {xss:List (List Int)} {v:Value} (hC:∀ b i,G.C b i→b<w.heap.size) (h:CV G w (.d (rowsD xss)) v):∃ a n c,v=.slice a n c∧RowsA false 0 w.heap.size w a n c xss:=by
 obtain ⟨a,n,c,vs,e,h2,h3,h4,h5,h6,h7,h8,h9⟩:=cvSl.1 h
 simp only [List.cons.injEq,and_true] at e
 subst e
 simp only [List.length_map] at h2
 obtain ⟨g1,g2⟩:=CXk.singles.1 h3
 refine ⟨a,n,c,rfl,h2,h5,h6,fun hn=>?_,h7⟩
 obtain ⟨b,off,ha,hc⟩:=h9 hn
 have hat:∀ i (hi:i<xss.length),∃ u,vs[i]? = some u∧∃ ra rn rc,u=.slice ra rn rc∧IntsA false 0 w.heap.size w ra rn rc xss[i]:=fun i hi=>by
  obtain ⟨u,hu,hx⟩:=g2 i (intsD xss[i]) (by rw [List.getElem?_map,List.getElem?_eq_getElem hi];rfl)
  obtain ⟨ra,rn,rc,e,hI⟩:=cx_ints hC hx
  simp only [List.cons.injEq,and_true] at e
  exact ⟨u,hu,ra,rn,rc,e,hI⟩
 obtain ⟨u0,hu0,_⟩:=hat 0 (by omega)
 refine ⟨b,off,ha,Nat.zero_le _,hC b _ (hc 0 u0 hu0).1,fun i hi=>?_⟩
 obtain ⟨u,hu,ra,rn,rc,rfl,hI⟩:=hat i (by omega)
 refine ⟨[.slice ra rn rc],xss[i],rfl,List.getElem?_eq_getElem (by omega),⟨ra,rn,rc,rfl,hI⟩,fun j hj=>?_⟩
 obtain rfl:j=0:=by omega
 exact ⟨by simpa using (hc i _ hu).2,fun h=>(by cases h)⟩
theorem cv_rel {G:Gh} {w:World} {ar:Int} {xss:List (List Int)} {v:Value} (hC:∀ b i,G.C b i→b<w.heap.size) (h:CV G w (.d (relD ar xss)) v):∃ a n c,v=trieV ar a n c∧I64 ar∧RowsA false 0 w.heap.size w a n c xss:=by
 obtain ⟨us,⟨u1,r1,rfl,⟨rfl,har⟩,u2,r2,rfl,h2,rfl⟩,rfl⟩:=cvAgg.1 h
 obtain ⟨a,n,c,vs,rfl,h3⟩:=h2
 obtain ⟨a',n',c',e,hR⟩:=cv_rows hC (cvSl.2 ⟨a,n,c,vs,rfl,h3⟩)
 cases e
 exact ⟨a,n,c,rfl,har,hR⟩
theorem cmpR_i64 (a b:List Int):I64 (cmpR a b):=by have:=cmpR_rng a b;unfold I64;omega
theorem implCmpRA (xs ys:List Int):AFn 69 [.d (intsD xs),.d (intsD ys)] [] (fun r os=>r=.d (.int (cmpR xs ys))∧os=[]):=by
 refine gives_afn (fnOK (by kernel_rfl)) (fun _ _=>cvInt.2 ⟨rfl,cmpR_i64 xs ys⟩) ?_
 rintro w G _ ⟨v1,_,rfl,h1,v2,_,rfl,h2,rfl⟩ hC
 obtain ⟨a,n,c,rfl,hI⟩:=cv_ints hC h1
 obtain ⟨a',n',c',rfl,hJ⟩:=cv_ints hC h2
 exact implCmpR a a' n c n' c' xs ys w hI hJ
theorem implValidRelA (ar:Int) (rows:List (List Int)):AFn 65 [.d (relD ar rows)] [] (fun r os=>r=.d (.bool (validR ar rows))∧os=[]):=by
 refine leaf_afn (fnOK (by kernel_rfl)) (fun _ _=>cvBool.2 rfl) ?_
 rintro w G _ ⟨v1,_,rfl,h1,rfl⟩ hC
 obtain ⟨a,n,c,rfl,har,hI⟩:=cv_rel hC h1
 exact implValidRel ar a n c rows w hI (Nat.le_refl _) har
theorem specCmpRA (xs ys:List Int):AFn 72 [.d (intsD xs),.d (intsD ys)] [] (fun r os=>r=.d (.int (cmpR xs ys))∧os=[]):=by
 refine gives_afn (fnOK (by kernel_rfl)) (fun _ _=>cvInt.2 ⟨rfl,cmpR_i64 xs ys⟩) ?_
 rintro w G _ ⟨v1,_,rfl,h1,v2,_,rfl,h2,rfl⟩ hC
 obtain ⟨a,n,c,rfl,hI⟩:=cv_ints hC h1
 obtain ⟨a',n',c',rfl,hJ⟩:=cv_ints hC h2
 exact specCmpR a a' n c n' c' xs ys w hI hJ
theorem specValsA (xs:List Int):AFn 59 [.d (intsD xs)] [] (fun r os=>r=.d (.bool (valB xs))∧os=[]):=by
 refine gives_afn (fnOK (by kernel_rfl)) (fun _ _=>cvBool.2 rfl) ?_
 rintro w G _ ⟨v1,_,rfl,h1,rfl⟩ hC
 obtain ⟨a,n,c,rfl,hI⟩:=cv_ints hC h1
 exact specVals a n c xs w hI
theorem specValidRelA (ar:Int) (rows:List (List Int)):AFn 58 [.d (relD ar rows)] [] (fun r os=>r=.d (.bool (validR ar rows))∧os=[]):=by
 refine leaf_afn (fnOK (by kernel_rfl)) (fun _ _=>cvBool.2 rfl) ?_
 rintro w G _ ⟨v1,_,rfl,h1,rfl⟩ hC
 obtain ⟨a,n,c,rfl,har,hI⟩:=cv_rel hC h1
 exact specValidRel ar a n c rows w hI (Nat.le_refl _) har
end Go.Proofs.Ytlpdbkhekbdceaa
namespace Go.Proofs.Ytlpdbkhekbdceaa
set_option linter.unusedSimpArgs false
set_option linter.unusedVariables false
attribute [local go_sem ↓] reduceIte
attribute [local go_sem] Nat.reduceEqDiff Nat.reduceLT Nat.reduceAdd Nat.reduceLeDiff Nat.reduceMul Nat.reduceBEq Nat.reduceSub reduceCtorEq Int.reduceLE Int.reduceNeg Int.reduceLT
open Go.RowKit
theorem copyIntsA (l:List Int) (hl:l.length≤1048576):AFn 77 [.d (intsD l)] [] (fun r os=>r=.buf 0 3 1 (l.map .int)∧os=[]):=by
 refine afn_of (rv:=[.tmp 2]) tyT_ok Try.func77 rfl (by decide +kernel) Try.ntmps77 rfl (by simp) ?_
 have hb:l.length≤16777215:=by omega
 repeat' (first | refine sq ?_ | refine stp ?_ | refine blk_o (by decide) ?_ | (apply cb;(focus (simp (disch:=(first | omega | (simp;omega))) only [go_sem,w64,intsD];try exact rfl));refine cok ?_) | (refine rgT ?_;intro K hK) | (refine dA ?_;intro K hK) | (with_reducible refine hK _ ?_;clear hK K) | (refine stq ?_;simp (disch:=(first | omega | (simp;omega))) only [go_sem,w64,intsD]) | refine as1 ?_ | fail)
 refine end0 3 (.inr rfl) (by simp (disch:=(first | omega | (simp;omega))) only [go_sem,w64];rfl) (r:=.buf 0 3 1 (l.map .int)) (by simp (disch:=(first | omega | (simp;omega))) only [go_sem,w64];exact .refl _) ?_
 exact ⟨rfl,rfl⟩
end Go.Proofs.Ytlpdbkhekbdceaa
namespace Go.Proofs.Ytlpdbkhekbdceaa
set_option linter.unusedSimpArgs false
set_option linter.unusedVariables false
attribute [local go_sem ↓] reduceIte
attribute [local go_sem] Nat.reduceEqDiff Nat.reduceLT Nat.reduceAdd Nat.reduceLeDiff Nat.reduceMul Nat.reduceBEq Nat.reduceSub reduceCtorEq Int.reduceLE Int.reduceNeg Int.reduceLT
open Go.RowKit
theorem nz0:((0:Nat):Int)=0:=rfl
theorem map_snoc {α β:Type} (f:α→β) (l:List α) (x:α):(l ++ [x]).map f=l.map f ++ [f x]:=by simp
theorem rx_take {l:List (List Int)} {k:Nat} (h:k<l.length):l.take (k+1)=l.take k ++ [rx l k]:=by rw [List.take_succ_eq_append_getElem h,rx_lt h]
theorem getDR {f:List Int→DV} {l:List (List Int)} {i:Nat} {x:DV} (h:i<l.length):(l.map f).getD i x=f (rx l i):=getDV h
theorem copyRowsA (l:List (List Int)) (hl:l.length≤1048576) (hr:∀ x∈l,x.length≤1048576):AFn 68 [.d (rowsD l)] [] (fun r os=>r=.buf 0 26 1 (l.map whD)∧os=[]):=by
 refine afn_of (rv:=[.tmp 2]) tyW_ok Try.func68 rfl (by decide +kernel) Try.ntmps68 rfl (by simp) ?_
 repeat' (first | refine sq ?_ | refine stp ?_ | refine blk_o (by decide) ?_ | (apply cb;(focus (simp (disch:=(first | omega | (simp;omega))) only [go_sem,w64,rowsD];try exact rfl));refine cok ?_) | (refine rgW ?_;intro K hK) | (refine dA ?_;intro K hK) | (with_reducible refine hK _ ?_;clear hK K) | (refine stq ?_;simp (disch:=(first | omega | (simp;omega))) only [go_sem,w64,rowsD]) | refine as1 ?_ | fail)
 refine awp_nilbuf 3 3 26 1 (by simp (disch:=(first | omega | (simp;omega))) only [go_sem,w64]) ?_
 refine awp_loopw (fun m s=>∃ k,m=l.length - k∧k≤l.length∧s=mkS [(3,.buf 3 26 1 ((l.take k).map whD)),(6,.d (rowsD l)),(7,.d (.int (l.length:Nat))),(8,.d (.int (k:Nat)))] []) ?_ ?_
 ·refine ⟨_,_,?_,0,rfl,Nat.zero_le _,rfl⟩
  exact sleA
 ·rintro m s ⟨k,rfl,hk,rfl⟩
  repeat' (first | refine sq ?_ | refine stp ?_ | refine blk_o (by decide) ?_ | (apply cb;(focus (simp (disch:=(first | omega | (simp;omega))) only [go_sem,w64,rowsD];try exact rfl));refine cok ?_) | (refine rgW ?_;intro K hK) | (refine dA ?_;intro K hK) | (with_reducible refine hK _ ?_;clear hK K) | (refine stq ?_;simp (disch:=(first | omega | (simp;omega))) only [go_sem,w64,rowsD]) | refine as1 ?_ | fail)
  refine awp_if (p:=(k:Int)<l.length) (by simp (disch:=(first | omega | (simp;omega))) only [go_sem,w64]) ?_ ?_ <;> intro hc
  ·have hk2:k<l.length:=by omega
   have hb:((l.take k).map whD).length≤16777215:=by simp;omega
   have hm:rx l k∈l:=by rw [rx_lt hk2];exact List.getElem_mem _
   have g0:(l.map intsD).getD k (.bool false)=intsD (rx l k):=getDR hk2
   repeat' (first | refine sq ?_ | refine stp ?_ | refine blk_o (by decide) ?_ | (apply cb;(focus (simp (disch:=(first | omega | (simp;omega))) only [go_sem,w64,rowsD,g0];try exact rfl));refine cok ?_) | (refine rgW ?_;intro K hK) | (refine dA ?_;intro K hK) | (with_reducible refine hK _ ?_;clear hK K) | (refine stq ?_;simp (disch:=(first | omega | (simp;omega))) only [go_sem,w64,rowsD,g0]) | refine as1 ?_ | fail)
   (first | refine callA (copyIntsA (rx l k) (hr _ hm)) ?_ | refine callD (copyIntsA (rx l k) (hr _ hm)) ?_ | refine callE (copyIntsA (rx l k) (hr _ hm)) ?_ | refine callF (copyIntsA (rx l k) (hr _ hm)) ?_ ?_)
   repeat' (first | refine sq ?_ | refine stp ?_ | refine blk_o (by decide) ?_ | (apply cb;(focus (simp (disch:=(first | omega | (simp;omega))) only [go_sem,w64,rowsD,g0];try exact rfl));refine cok ?_) | (refine rgW ?_;intro K hK) | (refine dA ?_;intro K hK) | (with_reducible refine hK _ ?_;clear hK K) | (refine stq ?_;simp (disch:=(first | omega | (simp;omega))) only [go_sem,w64,rowsD,g0]) | refine as1 ?_ | fail)
   refine ⟨l.length - (k+1),_,by omega,?_,k+1,rfl,by omega,rfl⟩
   rw [rx_take hk2,map_snoc]
   exact sleA
  ·obtain rfl:k=l.length:=by omega
   repeat' (first | refine sq ?_ | refine stp ?_ | refine blk_o (by decide) ?_ | (apply cb;(focus (simp (disch:=(first | omega | (simp;omega))) only [go_sem,w64];try exact rfl));refine cok ?_) | (refine rgW ?_;intro K hK) | (refine dA ?_;intro K hK) | (with_reducible refine hK _ ?_;clear hK K) | (refine stq ?_;simp (disch:=(first | omega | (simp;omega))) only [go_sem,w64]) | refine as1 ?_ | fail)
   refine end0 3 (.inr rfl) (by simp (disch:=(first | omega | (simp;omega))) only [go_sem,w64];rfl) (r:=.buf 0 26 1 (l.map whD)) (by simp (disch:=(first | omega | (simp;omega))) only [go_sem,w64];rw [List.take_length];exact .refl _) ?_
   exact ⟨rfl,rfl⟩
set_option maxHeartbeats 2000000 in
theorem sortedA (q:Nat) (hq:q≤1048576):∀ (N:Nat) (l:List (List Int)),l.length≤N→l.length≤1048576→SameL q l→AFn 48 [.d (rowsD l)] [] (fun r os=>r=.buf 0 26 1 ((srt l).map whD)∧os=[]):=by
 intro N
 induction N with
 | zero =>
  intro l hN hl hs
  have h0:((l.length:Nat):Int)<2↔True:=iff_of_true (by omega) trivial
  refine afn_of (rv:=[.tmp 2]) tyW_ok Try.func48 rfl (by decide +kernel) Try.ntmps48 rfl (by simp) ?_
  repeat' (first | refine sq ?_ | refine stp ?_ | refine blk_o (by decide) ?_ | (apply cb;(focus (simp (disch:=(first | omega | (simp;omega))) only [go_sem,w64,rowsD,h0];try exact rfl));refine cok ?_) | (refine rgW ?_;intro K hK) | (refine dA ?_;intro K hK) | (with_reducible refine hK _ ?_;clear hK K) | (refine stq ?_;simp (disch:=(first | omega | (simp;omega))) only [go_sem,w64,rowsD,h0]) | refine as1 ?_ | fail)
  (first | refine callA (copyRowsA l hl (fun x hx=>by have:=hs x hx;omega)) ?_ | refine callD (copyRowsA l hl (fun x hx=>by have:=hs x hx;omega)) ?_ | refine callE (copyRowsA l hl (fun x hx=>by have:=hs x hx;omega)) ?_ | refine callF (copyRowsA l hl (fun x hx=>by have:=hs x hx;omega)) ?_ ?_)
  repeat' (first | refine sq ?_ | refine stp ?_ | refine blk_o (by decide) ?_ | (apply cb;(focus (simp (disch:=(first | omega | (simp;omega))) only [go_sem,w64,rowsD,h0];try exact rfl));refine cok ?_) | (refine rgW ?_;intro K hK) | (refine dA ?_;intro K hK) | (with_reducible refine hK _ ?_;clear hK K) | (refine stq ?_;simp (disch:=(first | omega | (simp;omega))) only [go_sem,w64,rowsD,h0]) | refine as1 ?_ | fail)
  rw [srt_small (by omega:l.length<2)]
  refine end0 12 (.inr rfl) (by simp (disch:=(first | omega | (simp;omega))) only [go_sem,w64];rfl) (r:=.buf 0 26 1 (l.map whD)) (by simp (disch:=(first | omega | (simp;omega))) only [go_sem,w64];exact .refl _) ?_
  exact ⟨rfl,rfl⟩
 | succ N ih =>
  intro l hN hl hs
  by_cases h2:l.length<2
  ·have h0:((l.length:Nat):Int)<2↔True:=iff_of_true (by omega) trivial
   refine afn_of (rv:=[.tmp 2]) tyW_ok Try.func48 rfl (by decide +kernel) Try.ntmps48 rfl (by simp) ?_
   repeat' (first | refine sq ?_ | refine stp ?_ | refine blk_o (by decide) ?_ | (apply cb;(focus (simp (disch:=(first | omega | (simp;omega))) only [go_sem,w64,rowsD,h0];try exact rfl));refine cok ?_) | (refine rgW ?_;intro K hK) | (refine dA ?_;intro K hK) | (with_reducible refine hK _ ?_;clear hK K) | (refine stq ?_;simp (disch:=(first | omega | (simp;omega))) only [go_sem,w64,rowsD,h0]) | refine as1 ?_ | fail)
   (first | refine callA (copyRowsA l hl (fun x hx=>by have:=hs x hx;omega)) ?_ | refine callD (copyRowsA l hl (fun x hx=>by have:=hs x hx;omega)) ?_ | refine callE (copyRowsA l hl (fun x hx=>by have:=hs x hx;omega)) ?_ | refine callF (copyRowsA l hl (fun x hx=>by have:=hs x hx;omega)) ?_ ?_)
   repeat' (first | refine sq ?_ | refine stp ?_ | refine blk_o (by decide) ?_ | (apply cb;(focus (simp (disch:=(first | omega | (simp;omega))) only [go_sem,w64,rowsD,h0];try exact rfl));refine cok ?_) | (refine rgW ?_;intro K hK) | (refine dA ?_;intro K hK) | (with_reducible refine hK _ ?_;clear hK K) | (refine stq ?_;simp (disch:=(first | omega | (simp;omega))) only [go_sem,w64,rowsD,h0]) | refine as1 ?_ | fail)
   rw [srt_small h2]
   refine end0 12 (.inr rfl) (by simp (disch:=(first | omega | (simp;omega))) only [go_sem,w64];rfl) (r:=.buf 0 26 1 (l.map whD)) (by simp (disch:=(first | omega | (simp;omega))) only [go_sem,w64];exact .refl _) ?_
   exact ⟨rfl,rfl⟩
  ·have h0:((l.length:Nat):Int)<2↔False:=iff_of_false (by omega) id
   obtain ⟨m,hm⟩:∃ m,m=l.length / 2:=⟨_,rfl⟩
   have hw:IntKind.i64.wrap (((l.length:Nat):Int).tdiv 2)=(m:Nat):=by rw [tdiv_w (by omega)];omega
   have hc1:=ih (l.take m) (by simp;omega) (by simp;omega) (fun x hx=>hs x (List.mem_of_mem_take hx))
   have hc2:=ih (l.drop m) (by simp;omega) (by simp;omega) (fun x hx=>hs x (List.mem_of_mem_drop hx))
   refine afn_of (rv:=[.tmp 2]) tyW_ok Try.func48 rfl (by decide +kernel) Try.ntmps48 rfl (by simp) ?_
   repeat' (first | refine sq ?_ | refine stp ?_ | refine blk_o (by decide) ?_ | (apply cb;(focus (simp (disch:=(first | omega | (simp;omega))) only [go_sem,w64,rowsD,h0,hw,Int.toNat_zero,← List.map_take,← List.map_drop];try exact rfl));refine cok ?_) | (refine rgW ?_;intro K hK) | (refine dA ?_;intro K hK) | (with_reducible refine hK _ ?_;clear hK K) | (refine stq ?_;simp (disch:=(first | omega | (simp;omega))) only [go_sem,w64,rowsD,h0,hw,Int.toNat_zero,← List.map_take,← List.map_drop]) | refine as1 ?_ | fail)
   (first | refine callA (hc1) ?_ | refine callD (hc1) ?_ | refine callE (hc1) ?_ | refine callF (hc1) ?_ ?_)
   repeat' (first | refine sq ?_ | refine stp ?_ | refine blk_o (by decide) ?_ | (apply cb;(focus (simp (disch:=(first | omega | (simp;omega))) only [go_sem,w64,rowsD,h0,hw,Int.toNat_zero,← List.map_take,← List.map_drop,List.take_length];try exact rfl));refine cok ?_) | (refine rgW ?_;intro K hK) | (refine dA ?_;intro K hK) | (with_reducible refine hK _ ?_;clear hK K) | (refine stq ?_;simp (disch:=(first | omega | (simp;omega))) only [go_sem,w64,rowsD,h0,hw,Int.toNat_zero,← List.map_take,← List.map_drop,List.take_length]) | refine as1 ?_ | fail)
   (first | refine callA (hc2) ?_ | refine callD (hc2) ?_ | refine callE (hc2) ?_ | refine callF (hc2) ?_ ?_)
   repeat' (first | refine sq ?_ | refine stp ?_ | refine blk_o (by decide) ?_ | (apply cb;(focus (simp (disch:=(first | omega | (simp;omega))) only [go_sem,w64,rowsD,h0,hw,Int.toNat_zero,← List.map_take,← List.map_drop,List.take_length];try exact rfl));refine cok ?_) | (refine rgW ?_;intro K hK) | (refine dA ?_;intro K hK) | (with_reducible refine hK _ ?_;clear hK K) | (refine stq ?_;simp (disch:=(first | omega | (simp;omega))) only [go_sem,w64,rowsD,h0,hw,Int.toNat_zero,← List.map_take,← List.map_drop,List.take_length]) | refine as1 ?_ | fail)
   refine awp_nilbuf 6 6 26 1 (by simp (disch:=(first | omega | (simp;omega))) only [go_sem,w64]) ?_
   refine awp_loopw (fun mm s=>∃ (a b out:List (List Int)),mm=a.length+b.length∧Mrg q l a b out∧s=mkS [(4,.d (rowsV a)),(5,.d (rowsV b)),(6,.buf 6 26 1 (out.map whD))] []) ?_ ?_
   ·refine ⟨_,_,?_,_,_,[],rfl,Mrg.start hs m,rfl⟩
    exact sleA
   ·rintro mm s ⟨a,b,out,rfl,hM,rfl⟩
    have hlo:=hM.len
    cases a with
    | nil =>
     cases b with
     | nil =>
      have e:=hM.fin
      repeat' (first | refine sq ?_ | refine stp ?_ | refine blk_o (by decide) ?_ | (apply cb;(focus (simp (disch:=(first | omega | (simp;omega))) only [go_sem,w64,nz0];try exact rfl));refine cok ?_) | (refine rgW ?_;intro K hK) | (refine dA ?_;intro K hK) | (with_reducible refine hK _ ?_;clear hK K) | (refine stq ?_;simp (disch:=(first | omega | (simp;omega))) only [go_sem,w64,nz0]) | refine as1 ?_ | fail)
      rw [e]
      refine end0 6 (.inr rfl) (by simp (disch:=(first | omega | (simp;omega))) only [go_sem,w64];rfl) (r:=.buf 0 26 1 (out.map whD)) (by simp (disch:=(first | omega | (simp;omega))) only [go_sem,w64];exact .refl _) ?_
      exact ⟨rfl,rfl⟩
     | cons y b =>
      simp only [List.length_cons] at hlo
      have q1:(0:Int)<((b.length+1:Nat):Int)↔True:=iff_of_true (by omega) trivial
      have ho:(out.map whD).length≤16777215:=by simp;omega
      repeat' (first | refine sq ?_ | refine stp ?_ | refine blk_o (by decide) ?_ | (apply cb;(focus (simp (disch:=(first | omega | (simp;omega))) only [go_sem,w64,nz0,q1,← List.map_take,List.take_length,Int.toNat_zero,Int.toNat_one,List.length_map,whD];try exact rfl));refine cok ?_) | (refine rgW ?_;intro K hK) | (refine dA ?_;intro K hK) | (with_reducible refine hK _ ?_;clear hK K) | (refine stq ?_;simp (disch:=(first | omega | (simp;omega))) only [go_sem,w64,nz0,q1,← List.map_take,List.take_length,Int.toNat_zero,Int.toNat_one,List.length_map,whD]) | refine as1 ?_ | fail)
      refine ⟨b.length,_,by simp,?_,[],b,out ++ [y],by simp,hM.swap.left (fun _ h=>by cases h) |>.swap,rfl⟩
      rw [map_snoc]
      (refine sle_mk ?_ ?_ <;> simp (disch:=(first | omega | (simp;omega))) only [go_sem,w64,nz0,q1,← List.map_take,List.take_length,Int.toNat_zero,Int.toNat_one,List.length_map,whD] <;> exact leafs)
    | cons x a =>
     simp only [List.length_cons] at hlo
     have q1:(0:Int)<((a.length+1:Nat):Int)↔True:=iff_of_true (by omega) trivial
     have q2:((a.length+1:Nat):Int)=0↔False:=iff_of_false (by omega) id
     have ho:(out.map whD).length≤16777215:=by simp;omega
     cases b with
     | nil =>
      repeat' (first | refine sq ?_ | refine stp ?_ | refine blk_o (by decide) ?_ | (apply cb;(focus (simp (disch:=(first | omega | (simp;omega))) only [go_sem,w64,nz0,q1,← List.map_take,List.take_length,Int.toNat_zero,Int.toNat_one,List.length_map,whD,q2];try exact rfl));refine cok ?_) | (refine rgW ?_;intro K hK) | (refine dA ?_;intro K hK) | (with_reducible refine hK _ ?_;clear hK K) | (refine stq ?_;simp (disch:=(first | omega | (simp;omega))) only [go_sem,w64,nz0,q1,← List.map_take,List.take_length,Int.toNat_zero,Int.toNat_one,List.length_map,whD,q2]) | refine as1 ?_ | fail)
      refine ⟨a.length,_,by simp,?_,a,[],out ++ [x],by simp,hM.left (fun _ h=>by cases h),rfl⟩
      rw [map_snoc]
      (refine sle_mk ?_ ?_ <;> simp (disch:=(first | omega | (simp;omega))) only [go_sem,w64,nz0,q1,← List.map_take,List.take_length,Int.toNat_zero,Int.toNat_one,List.length_map,whD] <;> exact leafs)
     | cons y b =>
      simp only [List.length_cons] at hlo
      have q3:(0:Int)<((b.length+1:Nat):Int)↔True:=iff_of_true (by omega) trivial
      repeat' (first | refine sq ?_ | refine stp ?_ | refine blk_o (by decide) ?_ | (apply cb;(focus (simp (disch:=(first | omega | (simp;omega))) only [go_sem,w64,nz0,q1,← List.map_take,List.take_length,Int.toNat_zero,Int.toNat_one,List.length_map,whD,q2,q3];try exact rfl));refine cok ?_) | (refine rgW ?_;intro K hK) | (refine dA ?_;intro K hK) | (with_reducible refine hK _ ?_;clear hK K) | (refine stq ?_;simp (disch:=(first | omega | (simp;omega))) only [go_sem,w64,nz0,q1,← List.map_take,List.take_length,Int.toNat_zero,Int.toNat_one,List.length_map,whD,q2,q3]) | refine as1 ?_ | fail)
      (first | refine callA (implCmpRA x y) ?_ | refine callD (implCmpRA x y) ?_ | refine callE (implCmpRA x y) ?_ | refine callF (implCmpRA x y) ?_ ?_)
      have hrng:=cmpR_rng x y
      rcases (by omega:cmpR x y<0∨cmpR x y=0∨0<cmpR x y) with hc | hc | hc
      ·have r1:cmpR x y≤0↔True:=iff_of_true (by omega) trivial
       have r2:0≤cmpR x y↔False:=iff_of_false (by omega) id
       repeat' (first | refine sq ?_ | refine stp ?_ | refine blk_o (by decide) ?_ | (apply cb;(focus (simp (disch:=(first | omega | (simp;omega))) only [go_sem,w64,nz0,q1,← List.map_take,List.take_length,Int.toNat_zero,Int.toNat_one,List.length_map,whD,q2,q3,r1,r2];try exact rfl));refine cok ?_) | (refine rgW ?_;intro K hK) | (refine dA ?_;intro K hK) | (with_reducible refine hK _ ?_;clear hK K) | (refine stq ?_;simp (disch:=(first | omega | (simp;omega))) only [go_sem,w64,nz0,q1,← List.map_take,List.take_length,Int.toNat_zero,Int.toNat_one,List.length_map,whD,q2,q3,r1,r2]) | refine as1 ?_ | fail)
       refine ⟨a.length+(b.length+1),_,by simp only [List.length_cons];omega,?_,a,y :: b,out ++ [x],by simp,hM.left (fun z h=>by cases h;exact hc),rfl⟩
       rw [map_snoc]
       (refine sle_mk ?_ ?_ <;> simp (disch:=(first | omega | (simp;omega))) only [go_sem,w64,nz0,q1,← List.map_take,List.take_length,Int.toNat_zero,Int.toNat_one,List.length_map,whD] <;> exact leafs)
      ·have r1:cmpR x y≤0↔True:=iff_of_true (by omega) trivial
       have r2:0≤cmpR x y↔True:=iff_of_true (by omega) trivial
       have r3:0<cmpR x y↔False:=iff_of_false (by omega) id
       repeat' (first | refine sq ?_ | refine stp ?_ | refine blk_o (by decide) ?_ | (apply cb;(focus (simp (disch:=(first | omega | (simp;omega))) only [go_sem,w64,nz0,q1,← List.map_take,List.take_length,Int.toNat_zero,Int.toNat_one,List.length_map,whD,q2,q3,r1,r2,r3];try exact rfl));refine cok ?_) | (refine rgW ?_;intro K hK) | (refine dA ?_;intro K hK) | (with_reducible refine hK _ ?_;clear hK K) | (refine stq ?_;simp (disch:=(first | omega | (simp;omega))) only [go_sem,w64,nz0,q1,← List.map_take,List.take_length,Int.toNat_zero,Int.toNat_one,List.length_map,whD,q2,q3,r1,r2,r3]) | refine as1 ?_ | fail)
       obtain rfl:=cmpR_zero.1 hc
       refine ⟨a.length+b.length,_,by simp only [List.length_cons];omega,?_,a,b,out ++ [x],rfl,hM.both,rfl⟩
       rw [map_snoc]
       (refine sle_mk ?_ ?_ <;> simp (disch:=(first | omega | (simp;omega))) only [go_sem,w64,nz0,q1,← List.map_take,List.take_length,Int.toNat_zero,Int.toNat_one,List.length_map,whD] <;> exact leafs)
      ·have r1:cmpR x y≤0↔False:=iff_of_false (by omega) id
       have r2:0≤cmpR x y↔True:=iff_of_true (by omega) trivial
       have r3:0<cmpR x y↔True:=iff_of_true (by omega) trivial
       repeat' (first | refine sq ?_ | refine stp ?_ | refine blk_o (by decide) ?_ | (apply cb;(focus (simp (disch:=(first | omega | (simp;omega))) only [go_sem,w64,nz0,q1,← List.map_take,List.take_length,Int.toNat_zero,Int.toNat_one,List.length_map,whD,q2,q3,r1,r2,r3];try exact rfl));refine cok ?_) | (refine rgW ?_;intro K hK) | (refine dA ?_;intro K hK) | (with_reducible refine hK _ ?_;clear hK K) | (refine stq ?_;simp (disch:=(first | omega | (simp;omega))) only [go_sem,w64,nz0,q1,← List.map_take,List.take_length,Int.toNat_zero,Int.toNat_one,List.length_map,whD,q2,q3,r1,r2,r3]) | refine as1 ?_ | fail)
       refine ⟨a.length+1+b.length,_,by simp only [List.length_cons];omega,?_,x :: a,b,out ++ [y],by simp,(hM.swap.left (fun z h=>by cases h;have:=cmpR_anti x y;omega)).swap,rfl⟩
       rw [map_snoc]
       (refine sle_mk ?_ ?_ <;> simp (disch:=(first | omega | (simp;omega))) only [go_sem,w64,nz0,q1,← List.map_take,List.take_length,Int.toNat_zero,Int.toNat_one,List.length_map,whD] <;> exact leafs)
end Go.Proofs.Ytlpdbkhekbdceaa
namespace Go.Proofs.Ytlpdbkhekbdceaa
set_option linter.unusedSimpArgs false
set_option linter.unusedVariables false
attribute [local go_sem ↓] reduceIte
attribute [local go_sem] Nat.reduceEqDiff Nat.reduceLT Nat.reduceAdd Nat.reduceLeDiff Nat.reduceMul Nat.reduceBEq Nat.reduceSub reduceCtorEq Int.reduceLE Int.reduceNeg Int.reduceLT
open Go.RowKit
def rowsIn (ar:Int) (rows:List (List Int)):Prop:=∀ i,i<rows.length→((rx rows i).length:Int)=ar∧valB (rx rows i)=true
open Classical in
noncomputable def nrOK (ar:Int) (rows:List (List Int)):Bool:=decide (rowsIn ar rows) && validR ar (srt rows)
noncomputable def nrAr (ar:Int) (rows:List (List Int)):Int:=if nrOK ar rows=true then ar else 0
noncomputable def nrRows (ar:Int) (rows:List (List Int)):List (List Int):=if nrOK ar rows=true then srt rows else []
theorem nr_no {ar:Int} {rows:List (List Int)} (h:nrOK ar rows=false):nrAr ar rows=0∧nrRows ar rows=[]:=by simp [nrAr,nrRows,h]
theorem nr_yes {ar:Int} {rows:List (List Int)} (h:nrOK ar rows=true):nrAr ar rows=ar∧nrRows ar rows=srt rows:=by simp [nrAr,nrRows,h]
open Classical in
theorem nr_out {ar:Int} {rows:List (List Int)} {i:Nat} (hi:i<rows.length) (h:¬ (((rx rows i).length:Int)=ar∧valB (rx rows i)=true)):nrOK ar rows=false:=by
 unfold nrOK
 rw [decide_eq_false (fun hh=>h (hh i hi))];rfl
open Classical in
theorem nr_val {ar:Int} {rows:List (List Int)} (h:validR ar (srt rows)=false):nrOK ar rows=false:=by simp [nrOK,h]
open Classical in
theorem nr_in {ar:Int} {rows:List (List Int)} (h:rowsIn ar rows) (h2:validR ar (srt rows)=true):nrOK ar rows=true:=by simp [nrOK,h,h2]
theorem rowsIn.same {ar:Int} {rows:List (List Int)} (h:rowsIn ar rows):SameL ar.toNat rows:=fun x hx=>by
 obtain ⟨i,hi,rfl⟩:=List.mem_iff_getElem.1 hx
 have:=(h i hi).1
 rw [rx_lt hi] at this;omega
end Go.Proofs.Ytlpdbkhekbdceaa
namespace Go.Proofs.Ytlpdbkhekbdceaa
set_option linter.unusedSimpArgs false
set_option linter.unusedVariables false
attribute [local go_sem ↓] reduceIte
attribute [local go_sem] Nat.reduceEqDiff Nat.reduceLT Nat.reduceAdd Nat.reduceLeDiff Nat.reduceMul Nat.reduceBEq Nat.reduceSub reduceCtorEq Int.reduceLE Int.reduceNeg Int.reduceLT
open Go.RowKit
def pickL (cols row:List Int):List Int:=cols.map fun c=>ix row c.toNat
open Classical in
noncomputable def colsFit (ar:Int) (cols:List Int):Bool:=decide (cols.length≤5∧∀ i,i<cols.length→0≤ix cols i∧ix cols i≤ar - 1)
theorem pickL_take {cols row:List Int} {k:Nat} (hk:k<cols.length):pickL (cols.take (k+1)) row=pickL (cols.take k) row ++ [ix row (ix cols k).toNat]:=by
 unfold pickL
 rw [List.take_succ_eq_append_getElem hk,List.map_append,ix_lt hk];rfl
theorem pickL_len (cols row:List Int):(pickL cols row).length=cols.length:=by simp [pickL]
theorem implPickA (row cols:List Int) (hl:cols.length≤1000) (hc:∀ i,i<cols.length→0≤ix cols i∧ix cols i<row.length):AFn 47 [.d (intsD row),.d (intsD cols)] [] (fun r os=>r=.buf 0 3 1 ((pickL cols row).map .int)∧os=[]):=by
 refine afn_of (rv:=[.tmp 4]) tyT_ok Try.func47 rfl (by decide +kernel) Try.ntmps47 rfl (by simp) ?_
 repeat' (first | refine sq ?_ | refine stp ?_ | refine blk_o (by decide) ?_ | (apply cb;(focus (simp (disch:=(first | omega | (simp;omega))) only [go_sem,w64,intsD];try exact rfl));refine cok ?_) | (refine rgT ?_;intro K hK) | (refine dA ?_;intro K hK) | (with_reducible refine hK _ ?_;clear hK K) | (refine stq ?_;simp (disch:=(first | omega | (simp;omega))) only [go_sem,w64,intsD]) | refine as1 ?_ | fail)
 refine awp_loopw (fun m s=>∃ k,m=cols.length - k∧k≤cols.length∧s=mkS [(0,.d (intsD row)),(5,.buf 8 3 1 ((pickL (cols.take k) row).map .int)),(9,.d (intsD cols)),(10,.d (.int (cols.length:Nat))),(11,.d (.int (k:Nat)))] []) ?_ ?_
 ·refine ⟨_,_,?_,0,rfl,Nat.zero_le _,rfl⟩
  exact sleA
 ·rintro m s ⟨k,rfl,hk,rfl⟩
  repeat' (first | refine sq ?_ | refine stp ?_ | refine blk_o (by decide) ?_ | (apply cb;(focus (simp (disch:=(first | omega | (simp;omega))) only [go_sem,w64,intsD];try exact rfl));refine cok ?_) | (refine rgT ?_;intro K hK) | (refine dA ?_;intro K hK) | (with_reducible refine hK _ ?_;clear hK K) | (refine stq ?_;simp (disch:=(first | omega | (simp;omega))) only [go_sem,w64,intsD]) | refine as1 ?_ | fail)
  refine awp_if (p:=(k:Int)<cols.length) (by simp (disch:=(first | omega | (simp;omega))) only [go_sem,w64]) ?_ ?_ <;> intro hc1
  ·have hk2:k<cols.length:=by omega
   obtain ⟨h0,h1⟩:=hc k hk2
   have h2:(ix cols k).toNat<row.length:=by omega
   have h3:ix cols k<((row.length:Nat):Int)↔True:=iff_of_true h1 trivial
   have hb:(pickL (cols.take k) row).length≤16777215:=by rw [pickL_len];simp;omega
   repeat' (first | refine sq ?_ | refine stp ?_ | refine blk_o (by decide) ?_ | (apply cb;(focus (simp (disch:=(first | omega | (simp;omega))) only [go_sem,w64,intsD,h3];try exact rfl));refine cok ?_) | (refine rgT ?_;intro K hK) | (refine dA ?_;intro K hK) | (with_reducible refine hK _ ?_;clear hK K) | (refine stq ?_;simp (disch:=(first | omega | (simp;omega))) only [go_sem,w64,intsD,h3]) | refine as1 ?_ | fail)
   refine ⟨cols.length - (k+1),_,by omega,?_,k+1,rfl,by omega,rfl⟩
   rw [pickL_take hk2,List.map_append]
   exact sleA
  ·obtain rfl:k=cols.length:=by omega
   repeat' (first | refine sq ?_ | refine stp ?_ | refine blk_o (by decide) ?_ | (apply cb;(focus (simp (disch:=(first | omega | (simp;omega))) only [go_sem,w64];try exact rfl));refine cok ?_) | (refine rgT ?_;intro K hK) | (refine dA ?_;intro K hK) | (with_reducible refine hK _ ?_;clear hK K) | (refine stq ?_;simp (disch:=(first | omega | (simp;omega))) only [go_sem,w64]) | refine as1 ?_ | fail)
   refine end0 8 (.inr rfl) (by simp (disch:=(first | omega | (simp;omega))) only [go_sem,w64];rfl) (r:=.buf 0 3 1 ((pickL cols row).map .int)) (by simp (disch:=(first | omega | (simp;omega))) only [go_sem,w64];rw [List.take_length];exact .refl _) ?_
   exact ⟨rfl,rfl⟩
theorem fit_out {ar:Int} {cols:List Int} {i:Nat} (hi:i<cols.length) (h:¬ (0≤ix cols i∧ix cols i≤ar - 1)):colsFit ar cols=false:=by
 unfold colsFit;rw [decide_eq_false (fun hh=>h (hh.2 i hi))]
theorem fit_len {ar:Int} {cols:List Int} (h:¬ cols.length≤5):colsFit ar cols=false:=by
 unfold colsFit;rw [decide_eq_false (fun hh=>h hh.1)]
theorem fit_in {ar:Int} {cols:List Int} (h:cols.length≤5) (h2:∀ i,i<cols.length→0≤ix cols i∧ix cols i≤ar - 1):colsFit ar cols=true:=by
 unfold colsFit;rw [decide_eq_true ⟨h,h2⟩]
theorem fit_yes {ar:Int} {cols:List Int} (h:colsFit ar cols=true):cols.length≤5∧∀ i,i<cols.length→0≤ix cols i∧ix cols i≤ar - 1:=of_decide_eq_true h
theorem implWithinA (x lo hi:Int):AFn 62 [.d (.int x),.d (.int lo),.d (.int hi)] [] (fun r os=>r=.d (.bool (decide (lo≤x∧x≤hi)))∧os=[]):=by
 refine gives_afn (fnOK (by kernel_rfl)) (fun _ _=>cvBool.2 rfl) ?_
 rintro w G _ ⟨v1,_,rfl,h1,v2,_,rfl,h2,v3,_,rfl,h3,rfl⟩ hC
 obtain ⟨rfl,_⟩:=cvInt.1 h1
 obtain ⟨rfl,_⟩:=cvInt.1 h2
 obtain ⟨rfl,_⟩:=cvInt.1 h3
 exact implWithin x lo hi w
theorem implFitA (ar:Int) (cols:List Int) (hl:cols.length≤1048576) (h0:0≤ar) (har:ar≤1048576):AFn 45 [.d (.int ar),.d (intsD cols)] [] (fun r os=>r=.d (.bool (colsFit ar cols))∧os=[]):=by
 refine afn_of (rv:=[.tmp 4]) tyT_ok Try.func45 rfl (by decide +kernel) Try.ntmps45 rfl (by simp) ?_
 have hw:IntKind.i64.wrap (ar - 1)=ar - 1:=w64 (by omega)
 by_cases h5:(5:Int)<(cols.length:Nat)
 ·have h5t:(5:Int)<(cols.length:Nat)↔True:=iff_of_true h5 trivial
  repeat' (first | refine sq ?_ | refine stp ?_ | refine blk_o (by decide) ?_ | (apply cb;(focus (simp (disch:=(first | omega | (simp;omega))) only [go_sem,w64,intsD,h5t];try exact rfl));refine cok ?_) | (refine rgT ?_;intro K hK) | (refine dA ?_;intro K hK) | (with_reducible refine hK _ ?_;clear hK K) | (refine stq ?_;simp (disch:=(first | omega | (simp;omega))) only [go_sem,w64,intsD,h5t]) | refine as1 ?_ | fail)
  rw [fit_len (by omega)]
  (refine endA (r:=.d (.bool false)) ?_)
  exact ⟨rfl,rfl⟩
 ·have h5t:(5:Int)<(cols.length:Nat)↔False:=iff_of_false h5 id
  repeat' (first | refine sq ?_ | refine stp ?_ | refine blk_o (by decide) ?_ | (apply cb;(focus (simp (disch:=(first | omega | (simp;omega))) only [go_sem,w64,intsD,h5t];try exact rfl));refine cok ?_) | (refine rgT ?_;intro K hK) | (refine dA ?_;intro K hK) | (with_reducible refine hK _ ?_;clear hK K) | (refine stq ?_;simp (disch:=(first | omega | (simp;omega))) only [go_sem,w64,intsD,h5t]) | refine as1 ?_ | fail)
  refine awp_loopw (fun m s=>∃ k,m=cols.length - k∧k≤cols.length∧(∀ i,i<k→0≤ix cols i∧ix cols i≤ar - 1)∧s=mkS [(0,.d (.int ar)),(10,.d (intsD cols)),(11,.d (.int (cols.length:Nat))),(12,.d (.int (k:Nat)))] []) ?_ ?_
  ·refine ⟨_,_,?_,0,rfl,Nat.zero_le _,fun i hi=>absurd hi (Nat.not_lt_zero _),rfl⟩
   exact sleA
  ·rintro m s ⟨k,rfl,hk,hin,rfl⟩
   repeat' (first | refine sq ?_ | refine stp ?_ | refine blk_o (by decide) ?_ | (apply cb;(focus (simp (disch:=(first | omega | (simp;omega))) only [go_sem,w64,intsD];try exact rfl));refine cok ?_) | (refine rgT ?_;intro K hK) | (refine dA ?_;intro K hK) | (with_reducible refine hK _ ?_;clear hK K) | (refine stq ?_;simp (disch:=(first | omega | (simp;omega))) only [go_sem,w64,intsD]) | refine as1 ?_ | fail)
   refine awp_if (p:=(k:Int)<cols.length) (by simp (disch:=(first | omega | (simp;omega))) only [go_sem,w64]) ?_ ?_ <;> intro hc1
   ·have hk2:k<cols.length:=by omega
    repeat' (first | refine sq ?_ | refine stp ?_ | refine blk_o (by decide) ?_ | (apply cb;(focus (simp (disch:=(first | omega | (simp;omega))) only [go_sem,w64,intsD,hw];try exact rfl));refine cok ?_) | (refine rgT ?_;intro K hK) | (refine dA ?_;intro K hK) | (with_reducible refine hK _ ?_;clear hK K) | (refine stq ?_;simp (disch:=(first | omega | (simp;omega))) only [go_sem,w64,intsD,hw]) | refine as1 ?_ | fail)
    (first | refine callA (implWithinA (ix cols k) 0 (ar - 1)) ?_ | refine callD (implWithinA (ix cols k) 0 (ar - 1)) ?_ | refine callE (implWithinA (ix cols k) 0 (ar - 1)) ?_ | refine callF (implWithinA (ix cols k) 0 (ar - 1)) ?_ ?_)
    by_cases h2:0≤ix cols k∧ix cols k≤ar - 1
    ·have e:decide (0≤ix cols k∧ix cols k≤ar - 1)=true:=decide_eq_true h2
     rw [e]
     repeat' (first | refine sq ?_ | refine stp ?_ | refine blk_o (by decide) ?_ | (apply cb;(focus (simp (disch:=(first | omega | (simp;omega))) only [go_sem,w64,intsD,hw];try exact rfl));refine cok ?_) | (refine rgT ?_;intro K hK) | (refine dA ?_;intro K hK) | (with_reducible refine hK _ ?_;clear hK K) | (refine stq ?_;simp (disch:=(first | omega | (simp;omega))) only [go_sem,w64,intsD,hw]) | refine as1 ?_ | fail)
     refine ⟨cols.length - (k+1),_,by omega,?_,k+1,rfl,by omega,fun i hi=>?_,rfl⟩
     ·exact sleA
     ·by_cases e:i=k
      ·subst e;exact h2
      ·exact hin i (by omega)
    ·have e:decide (0≤ix cols k∧ix cols k≤ar - 1)=false:=decide_eq_false h2
     rw [e]
     repeat' (first | refine sq ?_ | refine stp ?_ | refine blk_o (by decide) ?_ | (apply cb;(focus (simp (disch:=(first | omega | (simp;omega))) only [go_sem,w64,intsD,hw];try exact rfl));refine cok ?_) | (refine rgT ?_;intro K hK) | (refine dA ?_;intro K hK) | (with_reducible refine hK _ ?_;clear hK K) | (refine stq ?_;simp (disch:=(first | omega | (simp;omega))) only [go_sem,w64,intsD,hw]) | refine as1 ?_ | fail)
     rw [fit_out hk2 h2]
     (refine endA (r:=.d (.bool false)) ?_)
     exact ⟨rfl,rfl⟩
   ·obtain rfl:k=cols.length:=by omega
    repeat' (first | refine sq ?_ | refine stp ?_ | refine blk_o (by decide) ?_ | (apply cb;(focus (simp (disch:=(first | omega | (simp;omega))) only [go_sem,w64];try exact rfl));refine cok ?_) | (refine rgT ?_;intro K hK) | (refine dA ?_;intro K hK) | (with_reducible refine hK _ ?_;clear hK K) | (refine stq ?_;simp (disch:=(first | omega | (simp;omega))) only [go_sem,w64]) | refine as1 ?_ | fail)
    rw [fit_in (by omega) hin]
    (refine endA (r:=.d (.bool true)) ?_)
    exact ⟨rfl,rfl⟩
noncomputable def prOK (ar:Int) (rows:List (List Int)) (cols:List Int):Bool:=(validR ar rows && colsFit ar cols) && nrOK cols.length (rows.map (pickL cols))
noncomputable def prAr (ar:Int) (rows:List (List Int)) (cols:List Int):Int:=if prOK ar rows cols=true then cols.length else 0
noncomputable def prRows (ar:Int) (rows:List (List Int)) (cols:List Int):List (List Int):=if prOK ar rows cols=true then srt (rows.map (pickL cols)) else []
end Go.Proofs.Ytlpdbkhekbdceaa
namespace Go.Proofs.Ytlpdbkhekbdceaa
set_option linter.unusedSimpArgs false
set_option linter.unusedVariables false
attribute [local go_sem ↓] reduceIte
attribute [local go_sem] Nat.reduceEqDiff Nat.reduceLT Nat.reduceAdd Nat.reduceLeDiff Nat.reduceMul Nat.reduceBEq Nat.reduceSub reduceCtorEq Int.reduceLE Int.reduceNeg Int.reduceLT
open Go.RowKit
noncomputable def btOK (ar:Int) (rows:List (List Int)) (cols:List Int):Bool:=(permB cols && decide (((cols.length:Nat):Int)=ar)) && prOK ar rows cols
noncomputable def btAr (ar:Int) (rows:List (List Int)) (cols:List Int):Int:=if btOK ar rows cols=true then prAr ar rows cols else 0
noncomputable def btRows (ar:Int) (rows:List (List Int)) (cols:List Int):List (List Int):=if btOK ar rows cols=true then prRows ar rows cols else []
end Go.Proofs.Ytlpdbkhekbdceaa
