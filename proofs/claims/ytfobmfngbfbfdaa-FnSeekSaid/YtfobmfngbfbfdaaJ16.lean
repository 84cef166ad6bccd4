/- Lemmas for the proof of FnIteration, part 16 of 22: no condition of their own. -/
import Derived.Test.YtfobmfngbfbfdaaJ1
import Derived.Test.YtfobmfngbfbfdaaJ15
import Derived.Test.YtfobmfngbfbfdaaJ2
import Derived.Test.YtfobmfngbfbfdaaJ3
import Derived.Test.YtfobmfngbfbfdaaJ9
import Derived.Test.YtfobmfngbfbfdaaJ10
namespace Go.Proofs.Ytfobmfngbfbfdaa
set_option linter.unusedSimpArgs false
set_option linter.unusedVariables false
open Go.RowKit
theorem cmpR_rng:∀ (a b:List Int),cmpR a b = -1∨cmpR a b=0∨cmpR a b=1
 | [],[]=>by simp [cmpR]
 | [],_ :: _=>by simp [cmpR]
 | _ :: _,[]=>by simp [cmpR]
 | x :: a,y :: b=>by
  simp only [cmpR]
  split
  ·exact cmpR_rng a b
  ·unfold cmpI
   split
   ·exact .inl rfl
   ·split
    ·exact .inr (.inr rfl)
    ·exact .inr (.inl rfl)
theorem cmpR_zero:∀ {a b:List Int},cmpR a b=0↔a=b
 | [],[]=>by simp [cmpR]
 | [],_ :: _=>by simp [cmpR]
 | _ :: _,[]=>by simp [cmpR]
 | x :: a,y :: b=>by
  simp only [cmpR]
  split
  ·rename_i e;rw [cmpR_zero,e];simp
  ·rename_i e
   unfold cmpI
   constructor
   ·intro h
    split at h
    ·omega
    ·split at h <;> omega
   ·intro h
    exact absurd (List.cons.inj h).1 e
theorem cmpR_self (a:List Int):cmpR a a=0:=cmpR_zero.2 rfl
theorem cmpR_tr:∀ {a b c:List Int},a.length=b.length→b.length=c.length→cmpR a b≤0→cmpR b c≤0→cmpR a c≤0∧(cmpR a b<0∨cmpR b c<0→cmpR a c<0)
 | [],[],[],_,_,_,_=>by simp [cmpR]
 | x :: a,y :: b,z :: c,h1,h2,h3,h4=>by
  simp only [List.length_cons,Nat.add_right_cancel_iff] at h1 h2
  simp only [cmpR,cmpI] at h3 h4 ⊢
  by_cases e1:x=y
  ·subst e1
   rw [if_pos rfl] at h3 ⊢
   by_cases e2:x=z
   ·subst e2
    rw [if_pos rfl] at h4 ⊢
    rw [if_pos rfl]
    exact cmpR_tr h1 h2 h3 h4
   ·rw [if_neg e2] at h4 ⊢
    rw [if_neg e2]
    split at h4
    ·rename_i hlt;rw [if_pos hlt];omega
    ·split at h4 <;> omega
  ·rw [if_neg e1] at h3 ⊢
   have hxy:x<y:=by
    split at h3
    ·assumption
    ·split at h3 <;> omega
   by_cases e2:y=z
   ·subst e2
    rw [if_neg e1,if_pos hxy]
    omega
   ·rw [if_neg e2] at h4
    have hyz:y<z:=by
     split at h4
     ·assumption
     ·split at h4 <;> omega
    rw [if_neg (by omega),if_pos (show x<z by omega)]
    omega
theorem cmpR_take:∀ {a b:List Int} (q:Nat),a.length=b.length→cmpR a b≤0→cmpR (a.take q) (b.take q)≤0
 | [],[],q,_,_=>by simp [cmpR]
 | x :: a,y :: b,0,_,_=>by simp [cmpR]
 | x :: a,y :: b,q+1,h,h1=>by
  simp only [List.length_cons,Nat.add_right_cancel_iff] at h
  simp only [List.take_succ_cons,cmpR] at h1 ⊢
  split at h1
  ·rename_i e;rw [if_pos e];exact cmpR_take q h h1
  ·rename_i e;rw [if_neg e];exact h1
theorem cmpR_snoc:∀ (a:List Int) (x y:Int),cmpR (a ++ [x]) (a ++ [y])=cmpI x y
 | [],x,y=>by
  simp only [List.nil_append,cmpR,cmpI]
  split
  ·rename_i e;subst e;simp
  ·rfl
 | z :: a,x,y=>by
  simp only [List.cons_append,cmpR,if_pos]
  exact cmpR_snoc a x y
theorem cmpI_anti (x y:Int):cmpI y x = - cmpI x y:=by
 unfold cmpI
 split <;> split <;> first | omega | (split <;> omega) | skip
theorem cmpR_anti:∀ a b:List Int,cmpR b a = - cmpR a b
 | [],[]=>by simp [cmpR]
 | [],_ :: _=>by simp [cmpR]
 | _ :: _,[]=>by simp [cmpR]
 | x :: a,y :: b=>by
  simp only [cmpR]
  by_cases e:x=y
  ·rw [if_pos e,if_pos e.symm];exact cmpR_anti a b
  ·rw [if_neg e,if_neg (fun h=>e h.symm)];exact cmpI_anti x y
def Asc (rows:List (List Int)):Prop:=rows.Pairwise (fun a b=>cmpR a b<0)
def SameL (n:Nat) (rows:List (List Int)):Prop:=∀ x∈rows,x.length=n
theorem cmpR_lt_tr {a b c:List Int} {n:Nat} (ha:a.length=n) (hb:b.length=n) (hc:c.length=n) (h1:cmpR a b<0) (h2:cmpR b c≤0):cmpR a c<0:=(cmpR_tr (by omega) (by omega) (by omega) h2).2 (.inl h1)
theorem cmpR_lt_tr2 {a b c:List Int} {n:Nat} (ha:a.length=n) (hb:b.length=n) (hc:c.length=n) (h1:cmpR a b≤0) (h2:cmpR b c<0):cmpR a c<0:=(cmpR_tr (by omega) (by omega) h1 (by omega)).2 (.inr h2)
def insR (x:List Int):List (List Int)→List (List Int)
 | []=>[x]
 | y :: l=>if cmpR x y<0 then x :: y :: l else if cmpR x y=0 then y :: l else y :: insR x l
def srt:List (List Int)→List (List Int)
 | []=>[]
 | x :: l=>insR x (srt l)
theorem mem_insR {x z:List Int}:∀ {l:List (List Int)},z∈insR x l↔z=x∨z∈l
 | []=>by simp [insR]
 | y :: l=>by
  simp only [insR]
  split
  ·simp
  ·split
   ·rename_i h
    have:=cmpR_zero.1 h
    subst this
    simp
   ·rw [List.mem_cons,mem_insR,List.mem_cons]
    constructor
    ·rintro (h | h | h)
     ·exact .inr (.inl h)
     ·exact .inl h
     ·exact .inr (.inr h)
    ·rintro (h | h | h)
     ·exact .inr (.inl h)
     ·exact .inl h
     ·exact .inr (.inr h)
theorem mem_srt {z:List Int}:∀ {l:List (List Int)},z∈srt l↔z∈l
 | []=>by simp [srt]
 | x :: l=>by simp only [srt];rw [mem_insR,mem_srt,List.mem_cons]
theorem SameL.srt {n:Nat} {l:List (List Int)} (h:SameL n l):SameL n (srt l):=fun x hx=>h x (mem_srt.1 hx)
theorem asc_insR {n:Nat} {x:List Int} (hx:x.length=n):∀ {l:List (List Int)},SameL n l→Asc l→Asc (insR x l)
 | [],_,_=>by simp [insR,Asc]
 | y :: l,hl,h=>by
  have h1:=List.pairwise_cons.1 h
  have hy:=hl y (List.mem_cons_self ..)
  simp only [insR]
  split
  ·rename_i hlt
   refine List.pairwise_cons.2 ⟨fun z hz=>?_,h⟩
   rcases List.mem_cons.1 hz with rfl | hz'
   ·exact hlt
   ·exact cmpR_lt_tr hx hy (hl z hz) hlt (by have:=h1.1 z hz';omega)
  ·split
   ·exact h
   ·rename_i h2 h3
    refine List.pairwise_cons.2 ⟨fun z hz=>?_,asc_insR hx (fun z hz=>hl z (List.mem_cons_of_mem _ hz)) h1.2⟩
    rcases mem_insR.1 hz with rfl | hz'
    ·have:=cmpR_anti z y;omega
    ·exact h1.1 z hz'
theorem asc_srt {n:Nat}:∀ {l:List (List Int)},SameL n l→Asc (srt l)
 | [],_=>by simp [srt,Asc]
 | x :: l,h=>asc_insR (h x (List.mem_cons_self ..)) (SameL.srt fun z hz=>h z (List.mem_cons_of_mem _ hz)) (asc_srt fun z hz=>h z (List.mem_cons_of_mem _ hz))
theorem asc_uniq:∀ {a b:List (List Int)},Asc a→Asc b→(∀ x,x∈a↔x∈b)→a=b
 | [],[],_,_,_=>rfl
 | [],y :: b,_,_,h=>by have:=(h y).2 (List.mem_cons_self ..);simp at this
 | x :: a,[],_,_,h=>by have:=(h x).1 (List.mem_cons_self ..);simp at this
 | x :: a,y :: b,ha,hb,h=>by
  have h1:=List.pairwise_cons.1 ha
  have h2:=List.pairwise_cons.1 hb
  have e:x=y:=by
   rcases List.mem_cons.1 ((h x).1 (List.mem_cons_self ..)) with e | e
   ·exact e
   ·rcases List.mem_cons.1 ((h y).2 (List.mem_cons_self ..)) with e' | e'
    ·exact e'.symm
    ·have g1:=h1.1 y e';have g2:=h2.1 x e;have:=cmpR_anti x y;omega
  subst e
  have hna:x ∉ a:=fun hx=>by have:=h1.1 x hx;rw [cmpR_self] at this;omega
  have hnb:x ∉ b:=fun hx=>by have:=h2.1 x hx;rw [cmpR_self] at this;omega
  rw [asc_uniq h1.2 h2.2 fun z=>?_]
  constructor
  ·intro hz
   rcases List.mem_cons.1 ((h z).1 (List.mem_cons_of_mem _ hz)) with rfl | h'
   ·exact absurd hz hna
   ·exact h'
  ·intro hz
   rcases List.mem_cons.1 ((h z).2 (List.mem_cons_of_mem _ hz)) with rfl | h'
   ·exact absurd hz hnb
   ·exact h'
theorem srt_eq {n:Nat} {l out:List (List Int)} (hl:SameL n l) (h1:Asc out) (h2:∀ x,x∈out↔x∈l):srt l=out:=asc_uniq (asc_srt hl) h1 fun x=>by rw [mem_srt,h2]
theorem insR_len (x:List Int):∀ l:List (List Int),(insR x l).length≤l.length+1
 | []=>by simp [insR]
 | y :: l=>by
  simp only [insR]
  split
  ·simp
  ·split
   ·simp
   ·have:=insR_len x l;simp only [List.length_cons];omega
theorem srt_len:∀ l:List (List Int),(srt l).length≤l.length
 | []=>by simp [srt]
 | x :: l=>by have:=insR_len x (srt l);have:=srt_len l;simp only [srt,List.length_cons];omega
theorem srt_small {l:List (List Int)} (h:l.length<2):srt l=l:=by
 match l,h with
 | [],_=>rfl
 | [x],_=>rfl
theorem asc_snoc {out:List (List Int)} {x:List Int} (h:Asc out) (hx:∀ y∈out,cmpR y x<0):Asc (out ++ [x]):=by
 unfold Asc
 rw [List.pairwise_append]
 exact ⟨h,by simp,fun y hy z hz=>by rw [List.mem_singleton.1 hz];exact hx y hy⟩
structure Mrg (q:Nat) (l a b out:List (List Int)):Prop where
 aa:Asc a
 ab:Asc b
 ao:Asc out
 lt:∀ x∈out,∀ y,y∈a∨y∈b→cmpR x y<0
 mem:∀ x,(x∈out∨x∈a∨x∈b)↔x∈l
 same:SameL q l
 len:out.length+a.length+b.length≤l.length
theorem Mrg.start {q:Nat} {l:List (List Int)} (h:SameL q l) (m:Nat):Mrg q l (srt (l.take m)) (srt (l.drop m)) []:=by
 have h1:SameL q (l.take m):=fun x hx=>h x (List.mem_of_mem_take hx)
 have h2:SameL q (l.drop m):=fun x hx=>h x (List.mem_of_mem_drop hx)
 refine ⟨asc_srt h1,asc_srt h2,by simp [Asc],by simp,fun x=>?_,h,?_⟩
 ·rw [mem_srt,mem_srt]
  have e:x∈l↔x∈l.take m∨x∈l.drop m:=by rw [← List.mem_append,List.take_append_drop]
  rw [e];simp
 ·have g1:=srt_len (l.take m);have g2:=srt_len (l.drop m)
  simp only [List.length_take,List.length_drop] at g1 g2
  simp only [List.length_nil];omega
structure Mrg2 (q:Nat) (l a b out:List (List Int)):Prop where
 aa:Asc a
 ab:Asc b
 ao:Asc out
 le:∀ x∈out,∀ y,y∈a∨y∈b→cmpR x y≤0
 mem:∀ x,(x∈out∨x∈a∨x∈b)↔x∈l
 same:SameL q l
 len:out.length+a.length+b.length≤l.length
theorem Mrg2.start {q:Nat} {l:List (List Int)} (h:SameL q l) (m:Nat):Mrg2 q l (srt (l.take m)) (srt (l.drop m)) []:=by
 have:=Mrg.start h m
 exact ⟨this.aa,this.ab,this.ao,by simp,this.mem,this.same,this.len⟩
theorem Mrg2.fin {q:Nat} {l out:List (List Int)} (h:Mrg2 q l [] [] out):srt l=out:=srt_eq h.same h.ao fun x=>by rw [← h.mem x];simp
theorem Mrg2.sa {q:Nat} {l a b out:List (List Int)} (h:Mrg2 q l a b out):SameL q a:=fun x hx=>h.same x ((h.mem x).1 (.inr (.inl hx)))
theorem Mrg2.sb {q:Nat} {l a b out:List (List Int)} (h:Mrg2 q l a b out):SameL q b:=fun x hx=>h.same x ((h.mem x).1 (.inr (.inr hx)))
theorem Mrg2.so {q:Nat} {l a b out:List (List Int)} (h:Mrg2 q l a b out):SameL q out:=fun x hx=>h.same x ((h.mem x).1 (.inl hx))
theorem Mrg2.swap {q:Nat} {l a b out:List (List Int)} (h:Mrg2 q l a b out):Mrg2 q l b a out :=
 ⟨h.ab,h.aa,h.ao,fun x hx y hy=>h.le x hx y hy.symm,fun x=>by rw [← h.mem x];constructor <;> (rintro (h | h | h) <;> simp [h]),h.same,by have:=h.len;omega⟩
theorem Mrg2.skip {q:Nat} {l a b out:List (List Int)} {x:List Int} (h:Mrg2 q l (x :: a) b out) (hx:x∈out):Mrg2 q l a b out:=by
 have h1:=List.pairwise_cons.1 h.aa
 refine ⟨h1.2,h.ab,h.ao,fun z hz y hy=>h.le z hz y (hy.imp (fun h=>List.mem_cons_of_mem _ h) id),fun z=>?_,h.same,by have:=h.len;simp at this ⊢;omega⟩
 rw [← h.mem z];simp only [List.mem_cons]
 constructor
 ·rintro (h | h | h)
  ·exact .inl h
  ·exact .inr (.inl (.inr h))
  ·exact .inr (.inr h)
 ·rintro (h | (h | h) | h)
  ·exact .inl h
  ·subst h;exact .inl hx
  ·exact .inr (.inl h)
  ·exact .inr (.inr h)
theorem Mrg2.left {q:Nat} {l a b out:List (List Int)} {x:List Int} (h:Mrg2 q l (x :: a) b out) (hx:∀ y,b.head? = some y→cmpR x y≤0) (ho:∀ y∈out,cmpR y x<0):Mrg2 q l a b (out ++ [x]):=by
 have h1:=List.pairwise_cons.1 h.aa
 refine ⟨h1.2,h.ab,asc_snoc h.ao ho,fun z hz y hy=>?_,fun z=>?_,h.same,by have:=h.len;simp at this ⊢;omega⟩
 ·rcases List.mem_append.1 hz with hz | hz
  ·exact h.le z hz y (hy.imp (fun h=>List.mem_cons_of_mem _ h) id)
  ·rw [List.mem_singleton] at hz
   subst hz
   rcases hy with hy | hy
   ·have:=h1.1 y hy;omega
   ·cases b with
    | nil=>cases hy
    | cons w b =>
     have h2:=hx w rfl
     rcases List.mem_cons.1 hy with rfl | hy'
     ·exact h2
     ·have:=cmpR_lt_tr2 (h.sa z (List.mem_cons_self ..)) (h.sb w (List.mem_cons_self ..)) (h.sb y hy) h2 ((List.pairwise_cons.1 h.ab).1 y hy')
      omega
 ·rw [← h.mem z];simp only [List.mem_append,List.mem_cons,List.not_mem_nil,or_false]
  constructor
  ·rintro ((h | h) | h | h)
   ·exact .inl h
   ·exact .inr (.inl (.inl h))
   ·exact .inr (.inl (.inr h))
   ·exact .inr (.inr h)
  ·rintro (h | (h | h) | h)
   ·exact .inl (.inl h)
   ·exact .inl (.inr h)
   ·exact .inr (.inl h)
   ·exact .inr (.inr h)
theorem Mrg2.less {q:Nat} {l a b out:List (List Int)} {x z:List Int} (h:Mrg2 q l (x :: a) b (out ++ [z])) (hz:cmpR z x ≠ 0):∀ y∈out ++ [z],cmpR y x<0:=fun y hy=>by
 have hzx:=h.le z (by simp) x (.inl (List.mem_cons_self ..))
 rcases List.mem_append.1 hy with hy' | hy'
 ·have h1:=(List.pairwise_append.1 h.ao).2.2 y hy' z (by simp)
  exact cmpR_lt_tr (h.so y hy) (h.so z (by simp)) (h.sa x (List.mem_cons_self ..)) h1 hzx
 ·rw [List.mem_singleton] at hy'
  subst hy';omega
end Go.Proofs.Ytfobmfngbfbfdaa
namespace Go.Proofs.Ytfobmfngbfbfdaa
set_option linter.unusedSimpArgs false
set_option linter.unusedVariables false
open Go.RowKit
theorem cv_rows {G:Gh} {w:World} {xss:List (List Int)} {v:Value} (hC:∀ b i,G.C b i→b<w.heap.size) (h:CV G w (.d (rowsD xss)) v):∃ a n c,v=.slice a n c∧RowsA false 0 w.heap.size w a n c xss:=by
 obtain ⟨a,n,c,vs,e,h2,h3,h4,h5,h6,h7,h8,h9⟩:=cvSl.1 h
 simp only [List.cons.injEq,and_true] at e
 subst e
 simp only [List.length_map] at h2
 obtain ⟨g1,g2⟩:=CXk.singles.1 h3
 refine ⟨a,n,c,rfl,h2,h5,h6,fun hn=>?_,h7⟩
 obtain ⟨b,off,ha,hc⟩:=h9 hn
 have hat:∀ i (hi:i<xss.length),∃ u,vs[i]? = some u∧∃ ra rn rc,u=.slice ra rn rc∧IntsA false 0 w.heap.size w ra rn rc xss[i]:=fun i hi=>by
  obtain ⟨u,hu,hx⟩:=g2 i (intsD xss[i]) (by rw [List.getElem?_map,List.getElem?_eq_getElem hi];rfl)
  obtain ⟨ra,rn,rc,e,hI⟩:=cx_ints hC hx
  simp only [List.cons.injEq,and_true] at e
  exact ⟨u,hu,ra,rn,rc,e,hI⟩
 obtain ⟨u0,hu0,_⟩:=hat 0 (by omega)
 refine ⟨b,off,ha,Nat.zero_le _,hC b _ (hc 0 u0 hu0).1,fun i hi=>?_⟩
 obtain ⟨u,hu,ra,rn,rc,rfl,hI⟩:=hat i (by omega)
 refine ⟨[.slice ra rn rc],xss[i],rfl,List.getElem?_eq_getElem (by omega),⟨ra,rn,rc,rfl,hI⟩,fun j hj=>?_⟩
 obtain rfl:j=0:=by omega
 exact ⟨by simpa using (hc i _ hu).2,fun h=>(by cases h)⟩
theorem cv_rel {G:Gh} {w:World} {ar:Int} {xss:List (List Int)} {v:Value} (hC:∀ b i,G.C b i→b<w.heap.size) (h:CV G w (.d (relD ar xss)) v):∃ a n c,v=trieV ar a n c∧I64 ar∧RowsA false 0 w.heap.size w a n c xss:=by
 obtain ⟨us,⟨u1,r1,rfl,⟨rfl,har⟩,u2,r2,rfl,h2,rfl⟩,rfl⟩:=cvAgg.1 h
 obtain ⟨a,n,c,vs,rfl,h3⟩:=h2
 obtain ⟨a',n',c',e,hR⟩:=cv_rows hC (cvSl.2 ⟨a,n,c,vs,rfl,h3⟩)
 cases e
 exact ⟨a,n,c,rfl,har,hR⟩
theorem cmpR_i64 (a b:List Int):I64 (cmpR a b):=by have:=cmpR_rng a b;unfold I64;omega
theorem specCmpRA (xs ys:List Int):AFn 33 [.d (intsD xs),.d (intsD ys)] [] (fun r os=>r=.d (.int (cmpR xs ys))∧os=[]):=by
 refine gives_afn (fnOK (by kernel_rfl)) (fun _ _=>cvInt.2 ⟨rfl,cmpR_i64 xs ys⟩) ?_
 rintro w G _ ⟨v1,_,rfl,h1,v2,_,rfl,h2,rfl⟩ hC
 obtain ⟨a,n,c,rfl,hI⟩:=cv_ints hC h1
 obtain ⟨a',n',c',rfl,hJ⟩:=cv_ints hC h2
 exact specCmpR a a' n c n' c' xs ys w hI hJ
theorem specValsA (xs:List Int):AFn 61 [.d (intsD xs)] [] (fun r os=>r=.d (.bool (valB xs))∧os=[]):=by
 refine gives_afn (fnOK (by kernel_rfl)) (fun _ _=>cvBool.2 rfl) ?_
 rintro w G _ ⟨v1,_,rfl,h1,rfl⟩ hC
 obtain ⟨a,n,c,rfl,hI⟩:=cv_ints hC h1
 exact specVals a n c xs w hI
theorem specPermA (xs:List Int):AFn 70 [.d (intsD xs)] [] (fun r os=>r=.d (.bool (permB xs))∧os=[]):=by
 refine gives_afn (fnOK (by kernel_rfl)) (fun _ _=>cvBool.2 rfl) ?_
 rintro w G _ ⟨v1,_,rfl,h1,rfl⟩ hC
 obtain ⟨a,n,c,rfl,hI⟩:=cv_ints hC h1
 exact specPerm a n c xs w hI
theorem specValidRelA (ar:Int) (rows:List (List Int)):AFn 53 [.d (relD ar rows)] [] (fun r os=>r=.d (.bool (validR ar rows))∧os=[]):=by
 refine leaf_afn (fnOK (by kernel_rfl)) (fun _ _=>cvBool.2 rfl) ?_
 rintro w G _ ⟨v1,_,rfl,h1,rfl⟩ hC
 obtain ⟨a,n,c,rfl,har,hI⟩:=cv_rel hC h1
 exact specValidRel ar a n c rows w hI (Nat.le_refl _) har
end Go.Proofs.Ytfobmfngbfbfdaa
namespace Go.Proofs.Ytfobmfngbfbfdaa
set_option linter.unusedSimpArgs false
set_option linter.unusedVariables false
attribute [local go_sem ↓] reduceIte
attribute [local go_sem] Nat.reduceEqDiff Nat.reduceLT Nat.reduceAdd Nat.reduceLeDiff Nat.reduceMul Nat.reduceBEq Nat.reduceSub reduceCtorEq Int.reduceLE Int.reduceNeg Int.reduceLT
open Go.RowKit
def isByt (y:DV):Prop:=∃ l:List Int,y=.sl 1 (l.map .byte)
def isNatD (y:DV):Prop:=∃ n:Int,0≤n∧y=.int n
def isIntP (y:DV):Prop:=∃ n:Int,y=.int n
def curL:List AV:=[.any isByt,.any isNatD,.any isIntP]
@[go_sem] theorem cur_scr (fb fo:Nat→Bool):scrubs fb fo curL=curL:=rfl
@[go_sem] theorem cur_scr' (fb fo:Nat→Bool):List.map (scrub fb fo) curL=curL:=rfl
@[go_sem] theorem cur_ren (ns:List Nat) (d:Nat):renAs ns d curL=curL:=rfl
@[go_sem] theorem cur_ent:entAs curL=curL:=rfl
@[go_sem] theorem cur_out (nl:List Nat) (g:Nat):outAs nl g curL=curL:=rfl
@[go_sem] theorem cur_frz (o k:Nat) (es:List DV):frzs o k es curL=curL:=rfl
def curC (l:List Int) (i h:Int):List AV:=[.d (.sl 1 (l.map .byte)),.d (.int i),.d (.int h)]
theorem cur_le {l:List Int} {i h:Int} (hi:0≤i):ALes (curC l i h) curL :=
 .cons (.any ⟨l,rfl⟩ (fun m e=>(by cases e))) (.cons (.any ⟨i,hi,rfl⟩ (fun m e=>(by cases e))) (.cons (.any ⟨h,rfl⟩ (fun m e=>(by cases e))) .nil))
theorem afn_cur {f:FuncId} {args:List AV} {R:AV→List (List AV)→Prop} (h:∀ (l:List Int) (i h:Int),0≤i→l.length≤9223372036854775807→AFn f args [curC l i h] R):AFn f args [curL] R:=by
 refine ⟨(h [] 0 0 (by omega) (by simp)).1,fun w G vs h1 h2 h3 h4=>?_⟩
 obtain ⟨g1,g2,us,g3,g4,g5⟩:=h3 0 curL rfl
 obtain ⟨u0,us,rfl,⟨x0,⟨l,rfl⟩,_,c0⟩,u1,us,rfl,⟨x1,⟨i,hi,rfl⟩,_,c1⟩,u2,us,rfl,⟨x2,⟨z,rfl⟩,_,c2⟩,rfl⟩:=g3
 have hl:l.length≤9223372036854775807:=by
  obtain ⟨a,n,c,vs,e1,e2,e3,e4⟩:=c0
  have:=e4.small
  simp only [List.length_map] at e2
  omega
 refine (h l i z hi hl).2 w G vs h1 h2 (fun j l' hj=>?_) h4
 cases j with
 | succ j=>simp at hj
 | zero =>
  simp only [List.getElem?_cons_zero,Option.some.injEq] at hj
  subst hj
  exact ⟨g1,g2,_,⟨u0,_,rfl,⟨_,c0,.inr ⟨fun m e=>(by cases e),rfl⟩⟩,u1,_,rfl,⟨_,c1,.inr ⟨fun m e=>(by cases e),rfl⟩⟩,u2,_,rfl,⟨_,c2,.inr ⟨fun m e=>(by cases e),rfl⟩⟩,rfl⟩,g4,g5⟩
theorem obOK_le {G:Gh} {w:World} {o:Nat} {l m:List AV} (h:ALes l m) (ho:ObOK G w o l):ObOK G w o m:=by
 obtain ⟨g1,g2,us,g3,g4,g5⟩:=ho
 exact ⟨g1,g2,us,h.cv g3,g4,g5⟩
theorem afn_weak1 {f:FuncId} {args:List AV} {os:List (List AV)} {R R':AV→List (List AV)→Prop} (h:AFn f args os R) (hR:∀ r os',R r os'→∃ r' l l',os'=[l]∧ALe r r'∧ALes l l'∧R' r' [l']):AFn f args os R':=by
 refine ⟨h.1,fun w G vs h1 h2 h3 h4=>(h.2 w G vs h1 h2 h3 h4).mono ?_⟩
 rintro e w' ⟨v,r,os',G',rfl,hp⟩
 obtain ⟨r',l,l',rfl,h5,h6,h7⟩:=hR r os' hp.post
 refine ⟨_,r',[l'],G',rfl,h7,h5.cv hp.res,hp.fr,hp.st,hp.le,fun i m hm=>?_,hp.adl,hp.adn,hp.d2,hp.cs,hp.lc,hp.bf,hp.d1,hp.d3,hp.uf⟩
 cases i with
 | succ i=>simp at hm
 | zero =>
  simp only [List.getElem?_cons_zero,Option.some.injEq] at hm
  subst hm
  exact obOK_le h6 (hp.ob 0 l rfl)
theorem end1 {ty:TypeId→Option TyI} {N:Nat} {s:AS} {rv:List ResultVar} {R:AV→List (List AV)→Prop} {e:Exit} (g:Nat) {xs:List AV} {r:AV} {l:List AV} (he:e=.normal∨e=.ret) (hx:finA ty N s rv=some xs) (hob:s.ob 1000000=some l) (h:ALe (outA [1000000] g (retA xs)) r) (hR:R r [outAs [1000000] g l]):EndA ty N 1 rv R e s :=
 ⟨he,[],g,xs,[outAs [1000000] g l],hx,by simp [lentN],by simp,by simp [lentN,obsOut,hob],r,by simpa [lentN] using h,hR⟩
theorem endN {ty:TypeId→Option TyI} {N:Nat} {s:AS} {rv:List ResultVar} {R:AV→List (List AV)→Prop} {e:Exit} (o:Nat) {xs:List AV} {r:AV} {l:List AV} (he:e=.normal∨e=.ret) (hx:finA ty N s rv=some xs) (hlt:o<1000000) (hob:s.ob o=some l) (h:ALe (outA [o] 0 (retA xs)) r) (hR:R r [outAs [o] 0 l]):EndA ty N 0 rv R e s :=
 ⟨he,[o],0,xs,[outAs [o] 0 l],hx,by simp [lentN],by simpa using hlt,by simp [lentN,obsOut,hob],r,by simpa [lentN] using h,hR⟩
theorem andI_255 (x:Int):0≤andI x 255∧andI x 255≤255:=by
 unfold andI
 have h1:(BitVec.ofInt 64 x &&& BitVec.ofInt 64 255).toNat≤255:=by
  rw [BitVec.toNat_and]
  exact Nat.le_trans Nat.and_le_right (by decide)
 rw [i64_wrap_id (by unfold I64;omega)]
 omega
theorem getDB {l:List Int} {i:Nat} {x:DV} (h:i<l.length):(l.map DV.byte).getD i x=.byte (ix l i):=by simp [List.getD,ix,h]
theorem l1ByteC (l:List Int) (i h:Int) (hi:0≤i) (hl:l.length≤9223372036854775807):AFn 48 [.ptr 0 0] [curC l i h] (fun r os=>∃ x i' h',(0≤x∧x≤255)∧0≤i'∧r=.d (.int x)∧os=[curC l i' h']):=by
 refine afn_of (rv:=[.tmp 2]) tyT_ok Try.func48 rfl (by decide +kernel) Try.ntmps48 rfl (by simp) ?_
 repeat' (first | refine sq ?_ | refine stp ?_ | refine blk_o (by decide) ?_ | (apply cb;(focus (simp (disch:=(first | omega | (simp;omega))) only [go_sem,w64,curC];try exact rfl));refine cok ?_) | (refine rgT ?_;intro K hK) | (refine dA ?_;intro K hK) | (with_reducible refine hK _ ?_;clear hK K) | (refine stq ?_;simp (disch:=(first | omega | (simp;omega))) only [go_sem,w64,curC]) | refine as1 ?_ | fail)
 generalize IntKind.i64.wrap (IntKind.i64.wrap (h*6364136223846793005)+1442695040888963407)=h'
 have hx:=andI_255 (xorI (shrI h' 33) (shrI h' 45))
 generalize andI (xorI (shrI h' 33) (shrI h' 45)) 255=x at hx
 refine awp_if (p:=i<(l.length:Nat)) (by simp (disch:=(first | omega | (simp;omega))) only [go_sem,w64]) ?_ ?_ <;> intro hc
 ·have hk:i.toNat<l.length:=by omega
  have hw:IntKind.i64.wrap (i+1)=i+1:=w64 (by omega)
  repeat' (first | refine sq ?_ | refine stp ?_ | refine blk_o (by decide) ?_ | (apply cb;(focus (simp (disch:=(first | omega | (simp;omega))) only [go_sem,w64,getDB,hw];try exact rfl));refine cok ?_) | (refine rgT ?_;intro K hK) | (refine dA ?_;intro K hK) | (with_reducible refine hK _ ?_;clear hK K) | (refine stq ?_;simp (disch:=(first | omega | (simp;omega))) only [go_sem,w64,getDB,hw]) | refine as1 ?_ | fail)
  have hy:=andI_255 (IntKind.i64.wrap (x+ix l i.toNat))
  refine end1 0 (.inr rfl) (by simp (disch:=(first | omega | (simp;omega))) only [go_sem,w64];rfl) (by simp (disch:=(first | omega | (simp;omega))) only [go_sem,w64];rfl) (r:=.d (.int (andI (IntKind.i64.wrap (x+ix l i.toNat)) 255))) (by simp (disch:=(first | omega | (simp;omega))) only [go_sem,w64];exact .refl _) ?_
  exact ⟨_,i+1,h',hy,by omega,rfl,rfl⟩
 ·repeat' (first | refine sq ?_ | refine stp ?_ | refine blk_o (by decide) ?_ | (apply cb;(focus (simp (disch:=(first | omega | (simp;omega))) only [go_sem,w64];try exact rfl));refine cok ?_) | (refine rgT ?_;intro K hK) | (refine dA ?_;intro K hK) | (with_reducible refine hK _ ?_;clear hK K) | (refine stq ?_;simp (disch:=(first | omega | (simp;omega))) only [go_sem,w64]) | refine as1 ?_ | fail)
  refine end1 0 (.inr rfl) (by simp (disch:=(first | omega | (simp;omega))) only [go_sem,w64];rfl) (by simp (disch:=(first | omega | (simp;omega))) only [go_sem,w64];rfl) (r:=.d (.int x)) (by simp (disch:=(first | omega | (simp;omega))) only [go_sem,w64];exact .refl _) ?_
  exact ⟨_,i,h',hx,hi,rfl,rfl⟩
theorem l1ByteA:AFn 48 [.ptr 0 0] [curL] (fun r os=>∃ x:Int,(0≤x∧x≤255)∧r=.d (.int x)∧os=[curL]):=by
 refine afn_cur (fun l i h hi hl=>afn_weak1 (l1ByteC l i h hi hl) ?_)
 rintro r os ⟨x,i',h',hx,hi',rfl,rfl⟩
 exact ⟨_,_,_,rfl,.refl _,cur_le hi',x,hx,rfl,rfl⟩
theorem l1BelowA (n:Int):AFn 26 [.ptr 0 0,.d (.int n)] [curL] (fun r os=>∃ x:Int,(0≤x∧(n≤0→x=0)∧(0<n→x<n))∧r=.d (.int x)∧os=[curL]):=by
 refine afn_of (rv:=[.tmp 4]) tyT_ok Try.func26 rfl (by decide +kernel) Try.ntmps26 rfl (by simp) ?_
 repeat' (first | refine sq ?_ | refine stp ?_ | refine blk_o (by decide) ?_ | (apply cb;(focus (simp (disch:=(first | omega | (simp;omega))) only [go_sem,w64];try exact rfl));refine cok ?_) | (refine rgT ?_;intro K hK) | (refine dA ?_;intro K hK) | (with_reducible refine hK _ ?_;clear hK K) | (refine stq ?_;simp (disch:=(first | omega | (simp;omega))) only [go_sem,w64]) | refine as1 ?_ | fail)
 refine awp_if (p:=n≤0) (by simp (disch:=(first | omega | (simp;omega))) only [go_sem,w64]) ?_ ?_ <;> intro hc
 ·repeat' (first | refine sq ?_ | refine stp ?_ | refine blk_o (by decide) ?_ | (apply cb;(focus (simp (disch:=(first | omega | (simp;omega))) only [go_sem,w64];try exact rfl));refine cok ?_) | (refine rgT ?_;intro K hK) | (refine dA ?_;intro K hK) | (with_reducible refine hK _ ?_;clear hK K) | (refine stq ?_;simp (disch:=(first | omega | (simp;omega))) only [go_sem,w64]) | refine as1 ?_ | fail)
  refine end1 0 (.inr rfl) (by simp (disch:=(first | omega | (simp;omega))) only [go_sem,w64];rfl) (by simp (disch:=(first | omega | (simp;omega))) only [go_sem,w64];rfl) (r:=.d (.int 0)) (by simp (disch:=(first | omega | (simp;omega))) only [go_sem,w64];exact .refl _) ?_
  exact ⟨0,⟨by omega,fun _=>rfl,fun h=>h⟩,rfl,rfl⟩
 ·repeat' (first | refine sq ?_ | refine stp ?_ | refine blk_o (by decide) ?_ | (apply cb;(focus (simp (disch:=(first | omega | (simp;omega))) only [go_sem,w64];try exact rfl));refine cok ?_) | (refine rgT ?_;intro K hK) | (refine dA ?_;intro K hK) | (with_reducible refine hK _ ?_;clear hK K) | (refine stq ?_;simp (disch:=(first | omega | (simp;omega))) only [go_sem,w64]) | refine as1 ?_ | fail)
  refine awp_if (p:=n≤256) (by simp (disch:=(first | omega | (simp;omega))) only [go_sem,w64]) ?_ ?_ <;> intro hc2
  ·have hn0:n ≠ 0:=by omega
   repeat' (first | refine sq ?_ | refine stp ?_ | refine blk_o (by decide) ?_ | (apply cb;(focus (simp (disch:=(first | omega | (simp;omega))) only [go_sem,w64];try exact rfl));refine cok ?_) | (refine rgT ?_;intro K hK) | (refine dA ?_;intro K hK) | (with_reducible refine hK _ ?_;clear hK K) | (refine stq ?_;simp (disch:=(first | omega | (simp;omega))) only [go_sem,w64]) | refine as1 ?_ | fail)
   (refine callL 1000000 (l1ByteA) ?_)
   rintro r os ⟨x,hx,rfl,rfl⟩
   refine ⟨by decide,?_⟩
   repeat' (first | refine sq ?_ | refine stp ?_ | refine blk_o (by decide) ?_ | (apply cb;(focus (simp (disch:=(first | omega | (simp;omega))) only [go_sem,w64,hn0];try exact rfl));refine cok ?_) | (refine rgT ?_;intro K hK) | (refine dA ?_;intro K hK) | (with_reducible refine hK _ ?_;clear hK K) | (refine stq ?_;simp (disch:=(first | omega | (simp;omega))) only [go_sem,w64,hn0]) | refine as1 ?_ | fail)
   refine end1 0 (.inr rfl) (by simp (disch:=(first | omega | (simp;omega))) only [go_sem,w64];rfl) (by simp (disch:=(first | omega | (simp;omega))) only [go_sem,w64];rfl) (r:=.d (.int (x.tmod n))) (by simp (disch:=(first | omega | (simp;omega))) only [go_sem,w64];exact .refl _) ?_
   have e:x.tmod n=x % n:=Int.tmod_eq_emod_of_nonneg hx.1
   have e1:=Int.emod_nonneg x hn0
   have e2:=Int.emod_lt_of_pos x (show 0<n by omega)
   exact ⟨_,⟨by omega,fun h=>by omega,fun _=>by omega⟩,rfl,rfl⟩
  ·have hn0:n ≠ 0:=by omega
   repeat' (first | refine sq ?_ | refine stp ?_ | refine blk_o (by decide) ?_ | (apply cb;(focus (simp (disch:=(first | omega | (simp;omega))) only [go_sem,w64];try exact rfl));refine cok ?_) | (refine rgT ?_;intro K hK) | (refine dA ?_;intro K hK) | (with_reducible refine hK _ ?_;clear hK K) | (refine stq ?_;simp (disch:=(first | omega | (simp;omega))) only [go_sem,w64]) | refine as1 ?_ | fail)
   (refine callL 1000000 (l1ByteA) ?_)
   rintro r os ⟨x,hx,rfl,rfl⟩
   refine ⟨by decide,?_⟩
   repeat' (first | refine sq ?_ | refine stp ?_ | refine blk_o (by decide) ?_ | (apply cb;(focus (simp (disch:=(first | omega | (simp;omega))) only [go_sem,w64];try exact rfl));refine cok ?_) | (refine rgT ?_;intro K hK) | (refine dA ?_;intro K hK) | (with_reducible refine hK _ ?_;clear hK K) | (refine stq ?_;simp (disch:=(first | omega | (simp;omega))) only [go_sem,w64]) | refine as1 ?_ | fail)
   (refine callL 1000000 (l1ByteA) ?_)
   rintro r os ⟨y,hy,rfl,rfl⟩
   refine ⟨by decide,?_⟩
   repeat' (first | refine sq ?_ | refine stp ?_ | refine blk_o (by decide) ?_ | (apply cb;(focus (simp (disch:=(first | omega | (simp;omega))) only [go_sem,w64];try exact rfl));refine cok ?_) | (refine rgT ?_;intro K hK) | (refine dA ?_;intro K hK) | (with_reducible refine hK _ ?_;clear hK K) | (refine stq ?_;simp (disch:=(first | omega | (simp;omega))) only [go_sem,w64]) | refine as1 ?_ | fail)
   (refine callL 1000000 (l1ByteA) ?_)
   rintro r os ⟨z,hz,rfl,rfl⟩
   refine ⟨by decide,?_⟩
   repeat' (first | refine sq ?_ | refine stp ?_ | refine blk_o (by decide) ?_ | (apply cb;(focus (simp (disch:=(first | omega | (simp;omega))) only [go_sem,w64];try exact rfl));refine cok ?_) | (refine rgT ?_;intro K hK) | (refine dA ?_;intro K hK) | (with_reducible refine hK _ ?_;clear hK K) | (refine stq ?_;simp (disch:=(first | omega | (simp;omega))) only [go_sem,w64]) | refine as1 ?_ | fail)
   (refine callL 1000000 (l1ByteA) ?_)
   rintro r os ⟨v,hv,rfl,rfl⟩
   refine ⟨by decide,?_⟩
   have w1:IntKind.i64.wrap (x*16777216)=x*16777216:=w64 (by omega)
   have w2:IntKind.i64.wrap (y*65536)=y*65536:=w64 (by omega)
   have w3:IntKind.i64.wrap (x*16777216+y*65536)=x*16777216+y*65536:=w64 (by omega)
   have w4:IntKind.i64.wrap (z*256)=z*256:=w64 (by omega)
   have w5:IntKind.i64.wrap (x*16777216+y*65536+z*256)=x*16777216+y*65536+z*256:=w64 (by omega)
   have w6:IntKind.i64.wrap (x*16777216+y*65536+z*256+v)=x*16777216+y*65536+z*256+v:=w64 (by omega)
   repeat' (first | refine sq ?_ | refine stp ?_ | refine blk_o (by decide) ?_ | (apply cb;(focus (simp (disch:=(first | omega | (simp;omega))) only [go_sem,w64,hn0,w1,w2,w3,w4,w5,w6];try exact rfl));refine cok ?_) | (refine rgT ?_;intro K hK) | (refine dA ?_;intro K hK) | (with_reducible refine hK _ ?_;clear hK K) | (refine stq ?_;simp (disch:=(first | omega | (simp;omega))) only [go_sem,w64,hn0,w1,w2,w3,w4,w5,w6]) | refine as1 ?_ | fail)
   refine end1 0 (.inr rfl) (by simp (disch:=(first | omega | (simp;omega))) only [go_sem,w64];rfl) (by simp (disch:=(first | omega | (simp;omega))) only [go_sem,w64];rfl) (r:=.d (.int ((x*16777216+y*65536+z*256+v).tmod n))) (by simp (disch:=(first | omega | (simp;omega))) only [go_sem,w64];exact .refl _) ?_
   generalize hq:x*16777216+y*65536+z*256+v=q
   have hq0:0≤q:=by omega
   have e:q.tmod n=q % n:=Int.tmod_eq_emod_of_nonneg hq0
   have e1:=Int.emod_nonneg q hn0
   have e2:=Int.emod_lt_of_pos q (show 0<n by omega)
   exact ⟨_,⟨by omega,fun h=>by omega,fun _=>by omega⟩,rfl,rfl⟩
theorem l1OnceA (n:Int):AFn 46 [.ptr 0 0,.d (.int n)] [curL] (fun r os=>∃ b:Bool,r=.d (.bool b)∧os=[curL]):=by
 refine afn_of (rv:=[.tmp 4]) tyT_ok Try.func46 rfl (by decide +kernel) Try.ntmps46 rfl (by simp) ?_
 repeat' (first | refine sq ?_ | refine stp ?_ | refine blk_o (by decide) ?_ | (apply cb;(focus (simp (disch:=(first | omega | (simp;omega))) only [go_sem,w64];try exact rfl));refine cok ?_) | (refine rgT ?_;intro K hK) | (refine dA ?_;intro K hK) | (with_reducible refine hK _ ?_;clear hK K) | (refine stq ?_;simp (disch:=(first | omega | (simp;omega))) only [go_sem,w64]) | refine as1 ?_ | fail)
 (refine callL 1000000 (l1BelowA n) ?_)
 rintro r os ⟨x,hx,rfl,rfl⟩
 refine ⟨by decide,?_⟩
 repeat' (first | refine sq ?_ | refine stp ?_ | refine blk_o (by decide) ?_ | (apply cb;(focus (simp (disch:=(first | omega | (simp;omega))) only [go_sem,w64];try exact rfl));refine cok ?_) | (refine rgT ?_;intro K hK) | (refine dA ?_;intro K hK) | (with_reducible refine hK _ ?_;clear hK K) | (refine stq ?_;simp (disch:=(first | omega | (simp;omega))) only [go_sem,w64]) | refine as1 ?_ | fail)
 refine end1 0 (.inr rfl) (by simp (disch:=(first | omega | (simp;omega))) only [go_sem,w64];rfl) (by simp (disch:=(first | omega | (simp;omega))) only [go_sem,w64];rfl) (r:=.d (.bool (decide (x=0)))) (by simp (disch:=(first | omega | (simp;omega))) only [go_sem,w64];exact .refl _) ?_
 exact ⟨_,rfl,rfl⟩
theorem l1NewA (l:List Int) (hl:l.length≤1048576):AFn 24 [.d (.sl 1 (l.map .byte))] [] (fun r os=>r=.ptr 0 0∧os=[curL]):=by
 have h:AFn 24 [.d (.sl 1 (l.map .byte))] [] (fun r os=>∃ h,r=.ptr 0 0∧os=[curC l 0 h]):=by
  refine afn_of (rv:=[.tmp 2]) tyT_ok Try.func24 rfl (by decide +kernel) Try.ntmps24 rfl (by simp) ?_
  repeat' (first | refine sq ?_ | refine stp ?_ | refine blk_o (by decide) ?_ | (apply cb;(focus (simp (disch:=(first | omega | (simp;omega))) only [go_sem,w64];try exact rfl));refine cok ?_) | (refine rgT ?_;intro K hK) | (refine dA ?_;intro K hK) | (with_reducible refine hK _ ?_;clear hK K) | (refine stq ?_;simp (disch:=(first | omega | (simp;omega))) only [go_sem,w64]) | refine as1 ?_ | fail)
  refine awp_loopw (fun m s=>∃ (k:Nat) (h:Int),m=l.length - k∧k≤l.length∧s=mkS [(0,.d (.sl 1 (l.map .byte))),(3,.d (.int h)),(4,.d (.int (k:Nat)))] []) ?_ ?_
  ·refine ⟨_,_,?_,0,IntKind.i64.wrap (10101+(l.length:Nat)),rfl,Nat.zero_le _,rfl⟩
   exact sleA
  ·rintro m s ⟨k,h,rfl,hk,rfl⟩
   have fin:∀ (h:Int),∃ h',AV.ptr 0 0=AV.ptr 0 0∧[curC l 0 h]=[curC l 0 h']:=fun h=>⟨h,rfl,rfl⟩
   by_cases h1:(k:Int)<(l.length:Nat)
   ·by_cases h2:(k:Int)<4000
    ·repeat' (first | refine sq ?_ | refine stp ?_ | refine blk_o (by decide) ?_ | (apply cb;(focus (simp (disch:=(first | omega | (simp;omega))) only [go_sem,w64,h1,h2,getDB];try exact rfl));refine cok ?_) | (refine rgT ?_;intro K hK) | (refine dA ?_;intro K hK) | (with_reducible refine hK _ ?_;clear hK K) | (refine stq ?_;simp (disch:=(first | omega | (simp;omega))) only [go_sem,w64,h1,h2,getDB]) | refine as1 ?_ | fail)
     refine ⟨l.length - (k+1),_,by omega,?_,k+1,?hv,rfl,by omega,rfl⟩
     ·exact sleA
    ·have h2':(k:Int)<4000↔False:=iff_of_false h2 id
     repeat' (first | refine sq ?_ | refine stp ?_ | refine blk_o (by decide) ?_ | (apply cb;(focus (simp (disch:=(first | omega | (simp;omega))) only [go_sem,w64,h1,h2'];try exact rfl));refine cok ?_) | (refine rgT ?_;intro K hK) | (refine dA ?_;intro K hK) | (with_reducible refine hK _ ?_;clear hK K) | (refine stq ?_;simp (disch:=(first | omega | (simp;omega))) only [go_sem,w64,h1,h2']) | refine as1 ?_ | fail)
     refine endN 31 (.inr rfl) (by simp (disch:=(first | omega | (simp;omega))) only [go_sem,w64];rfl) (by decide) (by simp (disch:=(first | omega | (simp;omega))) only [go_sem,w64];rfl) (r:=.ptr 0 0) (by simp (disch:=(first | omega | (simp;omega))) only [go_sem,w64];exact .refl _) ?_
     exact fin h
   ·have h1':(k:Int)<(l.length:Nat)↔False:=iff_of_false h1 id
    repeat' (first | refine sq ?_ | refine stp ?_ | refine blk_o (by decide) ?_ | (apply cb;(focus (simp (disch:=(first | omega | (simp;omega))) only [go_sem,w64,h1'];try exact rfl));refine cok ?_) | (refine rgT ?_;intro K hK) | (refine dA ?_;intro K hK) | (with_reducible refine hK _ ?_;clear hK K) | (refine stq ?_;simp (disch:=(first | omega | (simp;omega))) only [go_sem,w64,h1']) | refine as1 ?_ | fail)
    refine endN 31 (.inr rfl) (by simp (disch:=(first | omega | (simp;omega))) only [go_sem,w64];rfl) (by decide) (by simp (disch:=(first | omega | (simp;omega))) only [go_sem,w64];rfl) (r:=.ptr 0 0) (by simp (disch:=(first | omega | (simp;omega))) only [go_sem,w64];exact .refl _) ?_
    exact fin h
 refine afn_weak1 h ?_
 rintro r os ⟨h',rfl,rfl⟩
 exact ⟨_,_,_,rfl,.refl _,cur_le (by omega),rfl,rfl⟩
theorem bigA (code:List Int) (hl:code.length≤9223372036854775807):AFn 5 [.d (.sl 1 (code.map .byte))] [] (fun r os=>r=.d (.bool (decide ((1048576:Int)<(code.length:Nat))))∧os=[]):=by
 refine afn_of (rv:=[.tmp 2]) tyT_ok Try.func5 rfl (by decide +kernel) Try.ntmps5 rfl (by simp) ?_
 repeat' (first | refine sq ?_ | refine stp ?_ | refine blk_o (by decide) ?_ | (apply cb;(focus (simp (disch:=(first | omega | (simp;omega))) only [go_sem,w64];try exact rfl));refine cok ?_) | (refine rgT ?_;intro K hK) | (refine dA ?_;intro K hK) | (with_reducible refine hK _ ?_;clear hK K) | (refine stq ?_;simp (disch:=(first | omega | (simp;omega))) only [go_sem,w64]) | refine as1 ?_ | fail)
 (refine endA (r:=.d (.bool (decide ((1048576:Int)<(code.length:Nat))))) ?_)
 exact ⟨rfl,rfl⟩
theorem l1PickIntM (xs:List Int) (h0:0<xs.length):AFn 65 [.ptr 0 0,.d (intsD xs)] [curL] (fun r os=>∃ x:Int,x∈xs∧r=.d (.int x)∧os=[curL]):=by
 refine afn_of (rv:=[.tmp 4]) tyT_ok Try.func65 rfl (by decide +kernel) Try.ntmps65 rfl (by simp) ?_
 repeat' (first | refine sq ?_ | refine stp ?_ | refine blk_o (by decide) ?_ | (apply cb;(focus (simp (disch:=(first | omega | (simp;omega))) only [go_sem,w64,intsD];try exact rfl));refine cok ?_) | (refine rgT ?_;intro K hK) | (refine dA ?_;intro K hK) | (with_reducible refine hK _ ?_;clear hK K) | (refine stq ?_;simp (disch:=(first | omega | (simp;omega))) only [go_sem,w64,intsD]) | refine as1 ?_ | fail)
 (refine callL 1000000 (l1BelowA (xs.length:Nat)) ?_)
 rintro r os ⟨x,⟨hx0,_,hx1⟩,rfl,rfl⟩
 have hx2:=hx1 (by omega)
 have hk:x.toNat<xs.length:=by omega
 refine ⟨by decide,?_⟩
 repeat' (first | refine sq ?_ | refine stp ?_ | refine blk_o (by decide) ?_ | (apply cb;(focus (simp (disch:=(first | omega | (simp;omega))) only [go_sem,w64,intsD];try exact rfl));refine cok ?_) | (refine rgT ?_;intro K hK) | (refine dA ?_;intro K hK) | (with_reducible refine hK _ ?_;clear hK K) | (refine stq ?_;simp (disch:=(first | omega | (simp;omega))) only [go_sem,w64,intsD]) | refine as1 ?_ | fail)
 refine end1 0 (.inr rfl) (by simp (disch:=(first | omega | (simp;omega))) only [go_sem,w64];rfl) (by simp (disch:=(first | omega | (simp;omega))) only [go_sem,w64];rfl) (r:=.d (.int (ix xs x.toNat))) (by simp (disch:=(first | omega | (simp;omega))) only [go_sem,w64];exact .refl _) ?_
 exact ⟨_,by rw [ix_lt hk];exact List.getElem_mem _,rfl,rfl⟩
end Go.Proofs.Ytfobmfngbfbfdaa
namespace Go.Proofs.Ytfobmfngbfbfdaa
set_option linter.unusedSimpArgs false
set_option linter.unusedVariables false
open Go.RowKit
abbrev itD (ar:Int) (rows:List (List Int)) (lw gh ps:List Int):DV:=.agg [.int ar,rowsD rows,intsD lw,intsD gh,intsD ps]
theorem own_rows_cx {C:Nat→Nat→Prop} {lo hi:Nat} {w:World} {a:Option Addr} {n c:Nat} {xss:List (List Int)} (h:RowsA true lo hi w a n c xss) (hC:∀ b i,lo≤b→b<hi→w.frozen? ⟨b,i,none⟩=false→C b i):CX C w (rowsD xss) [.slice a n c]:=by
 obtain ⟨h1,h2,h3,h4,h5⟩:=h
 by_cases hn:0<n
 ·obtain ⟨b,off,ha,hl,hb,hc⟩:=h4 hn
  have hat:∀ i,i<n→∃ ra rn rc,IntsA true lo hi w ra rn rc (rx xss i)∧w.cell? ⟨b,off+i,none⟩=some (.slice ra rn rc)∧w.frozen? ⟨b,off+i,none⟩=false:=fun i hi=>by
   obtain ⟨cs,x,e1,e2,⟨ra,rn,rc,e3,e4⟩,e5⟩:=hc i hi
   subst e3
   have hx:rx xss i=x:=by simp [rx,List.getD,e2]
   have:=e5 0 (by simp)
   exact ⟨ra,rn,rc,by rw [hx];exact e4,by simpa using this.1,by simpa using this.2 rfl⟩
  have hex:∃ f:Nat→Value,∀ i,i<n→(∃ ra rn rc,f i=.slice ra rn rc∧IntsA true lo hi w ra rn rc (rx xss i))∧w.cell? ⟨b,off+i,none⟩=some (f i)∧w.frozen? ⟨b,off+i,none⟩=false:=by
   refine ⟨fun i=>(w.cell? ⟨b,off+i,none⟩).getD undef,fun i hi=>?_⟩
   obtain ⟨ra,rn,rc,g1,g2,g3⟩:=hat i hi
   refine ⟨⟨ra,rn,rc,by simp only [g2];rfl,g1⟩,by simp only [g2];rfl,g3⟩
  obtain ⟨f,hf⟩:=hex
  refine ⟨a,n,c,(List.range n).map f,rfl,by simpa using h1,CXk.singles.2 ⟨by simp [h1],fun i x hx=>?_⟩,by simp,h2,h3,h5,fun u hu=>?_,fun _=>⟨b,off,ha,fun i u hu=>?_⟩⟩
  ·rw [List.getElem?_map] at hx
   cases e:xss[i]? with
   | none=>rw [e] at hx;cases hx
   | some y =>
    rw [e] at hx;cases hx
    have hi:i<xss.length:=(List.getElem?_eq_some_iff.1 e).1
    obtain ⟨⟨ra,rn,rc,g1,g2⟩,_⟩:=hf i (by omega)
    have hy:rx xss i=y:=by simp [rx,List.getD,e]
    exact ⟨f i,by simp [show i<n by omega],by rw [g1,← hy];exact own_cx g2 hC⟩
  ·obtain ⟨i,hi,rfl⟩:=List.mem_map.1 hu
   obtain ⟨⟨ra,rn,rc,g1,_⟩,_⟩:=hf i (by simpa using hi)
   rw [g1];rfl
  ·have hi:i<n:=by have:=(List.getElem?_eq_some_iff.1 hu).1;simpa using this
   simp [hi] at hu
   subst hu
   obtain ⟨_,g2,g3⟩:=hf i hi
   exact ⟨hC _ _ hl hb g3,g2⟩
 ·obtain rfl:n=0:=by omega
  obtain rfl:=List.eq_nil_of_length_eq_zero h1
  exact ⟨a,0,c,[],rfl,rfl,rfl,by simp,h2,h3,h5,fun u hu=>(by cases hu),fun h=>absurd h (Nat.lt_irrefl 0)⟩
theorem cv_iter {G:Gh} {w:World} {ar:Int} {rows:List (List Int)} {lw gh ps:List Int} {v:Value} (hC:∀ b i,G.C b i→b<w.heap.size) (h:CV G w (.d (itD ar rows lw gh ps)) v):∃ a n c la ln lc ga gn gc pa pn pc,v=iterV ar a n c la ln lc ga gn gc pa pn pc∧IterA false 0 w.heap.size w ar a n c rows la ln lc lw ga gn gc gh pa pn pc ps:=by
 obtain ⟨us,⟨_,_,rfl,⟨rfl,har⟩,_,_,rfl,h2,_,_,rfl,h3,_,_,rfl,h4,_,_,rfl,h5,rfl⟩,rfl⟩:=cvAgg.1 h
 obtain ⟨a,n,c,vs,rfl,h2'⟩:=h2
 obtain ⟨a',n',c',e,hR⟩:=cv_rows hC (cvSl.2 ⟨a,n,c,vs,rfl,h2'⟩)
 cases e
 obtain ⟨la,ln,lc,rfl,g3⟩:=cx_ints hC h3
 obtain ⟨ga,gn,gc,rfl,g4⟩:=cx_ints hC h4
 obtain ⟨pa,pn,pc,rfl,g5⟩:=cx_ints hC h5
 exact ⟨a,n,c,la,ln,lc,ga,gn,gc,pa,pn,pc,rfl,⟨har,hR⟩,g3,g4,g5⟩
theorem itb_afn {f:FuncId} {args:List AV} {ar:Int} {rows:List (List Int)} {lw gh ps:List Int} {ok:Bool} (hf:FnOK f) (h:∀ (w:World) (G:Gh) (vs:List Value),CVs G w args vs→(∀ b i,G.C b i→b<w.heap.size)→Calls Try.prog f vs.toArray w (GvItB w ar rows lw gh ps ok)) :
 AFn f args [] (fun r os=>r=.tup [.d (itD ar rows lw gh ps),.d (.bool ok)]∧os=[]):=by
 refine afn_of_calls hf fun w G vs h1 h2=>(h w G vs h1 h2).mono ?_
 rintro e w' ⟨a,n,c,la,ln,lc,ga,gn,gc,pa,pn,pc,rfl,hI,hb⟩
 obtain ⟨⟨har,hR⟩,g3,g4,g5⟩:=hI.it
 have hC:∀ b i,w.heap.size≤b→b<w'.heap.size→w'.frozen? ⟨b,i,none⟩=false→(newG G.C w.heap.size w').C b i:=fun b i h1 h2 h3=>.inr ⟨h1,h2,h3⟩
 refine ⟨hb,_,_,rfl,⟨rfl,rfl⟩,[_,_],rfl,_,_,rfl,cvAgg.2 ⟨[_,_,_,_,_],⟨[_],_,rfl,⟨rfl,har⟩,[_],_,rfl,own_rows_cx hR hC,[_],_,rfl,own_cx g3 hC,[_],_,rfl,own_cx g4 hC,[_],[],rfl,own_cx g5 hC,rfl⟩,rfl⟩,_,_,rfl,cvBool.2 rfl,rfl⟩
section
variable (ar:Int) (rows:List (List Int)) (lw gh ps:List Int)
theorem implValidItA:AFn 11 [.d (itD ar rows lw gh ps)] [] (fun r os=>r=.d (.bool (validIt ar rows lw gh ps))∧os=[]):=by
 refine leaf_afn (fnOK (by kernel_rfl)) (fun _ _=>cvBool.2 rfl) ?_
 rintro w G _ ⟨v,_,rfl,h1,rfl⟩ hC
 obtain ⟨a,n,c,la,ln,lc,ga,gn,gc,pa,pn,pc,rfl,hI⟩:=cv_iter hC h1
 exact implValidIt ar a n c rows la ln lc lw ga gn gc gh pa pn pc ps w hI (Nat.le_refl _)
theorem implAtEndA:AFn 12 [.d (itD ar rows lw gh ps)] [] (fun r os=>r=.d (.bool (atEndF ar rows lw gh ps))∧os=[]):=by
 refine leaf_afn (fnOK (by kernel_rfl)) (fun _ _=>cvBool.2 rfl) ?_
 rintro w G _ ⟨v,_,rfl,h1,rfl⟩ hC
 obtain ⟨a,n,c,la,ln,lc,ga,gn,gc,pa,pn,pc,rfl,hI⟩:=cv_iter hC h1
 exact implAtEnd ar a n c rows la ln lc lw ga gn gc gh pa pn pc ps w hI (Nat.le_refl _)
theorem ix_i64 {l:List Int} (h:∀ x∈l,I64 x) (i:Nat):I64 (ix l i):=by
 by_cases hi:i<l.length
 ·rw [ix_lt hi];exact h _ (List.getElem_mem _)
 ·have:ix l i=0:=by simp [ix,List.getD,List.getElem?_eq_none (Nat.le_of_not_lt hi)]
  rw [this];unfold I64;omega
theorem rows_i64 {fz:Bool} {lo hi:Nat} {w:World} {a:Option Addr} {n c:Nat} {rows:List (List Int)} (h:RowsA fz lo hi w a n c rows) (i k:Nat):I64 (kx rows i k):=by
 unfold kx
 by_cases hi:i<rows.length
 ·obtain ⟨h1,_,_,h4,_⟩:=h
  obtain ⟨b,off,_,_,_,hc⟩:=h4 (by omega)
  obtain ⟨cs,x,e1,e2,⟨ra,rn,rc,e3,e4⟩,_⟩:=hc i (by omega)
  have hx:rx rows i=x:=by simp [rx,List.getD,e2]
  rw [hx]
  exact ix_i64 e4.2.2.2.1 k
 ·have:rx rows i=[]:=by simp [rx,List.getD,List.getElem?_eq_none (Nat.le_of_not_lt hi)]
  rw [this];exact ix_i64 (fun x (hx:x∈([]:List Int))=>by cases hx) k
theorem implCurKeyA:AFn 10 [.d (itD ar rows lw gh ps)] [] (fun r os=>r=.tup [.d (.int (curKey ar rows lw gh ps)),.d (.bool (standsF ar rows lw gh ps))]∧os=[]):=by
 refine afn_of_calls (fnOK (by kernel_rfl)) ?_
 rintro w G _ ⟨v,_,rfl,h1,rfl⟩ hC
 obtain ⟨a,n,c,la,ln,lc,ga,gn,gc,pa,pn,pc,rfl,hI⟩:=cv_iter hC h1
 have hk:I64 (curKey ar rows lw gh ps):=by
  unfold curKey
  split
  ·exact rows_i64 hI.1.2 _ _
  ·unfold I64;omega
 refine (implCurKey ar a n c rows la ln lc lw ga gn gc gh pa pn pc ps w hI (Nat.le_refl _)).mono ?_
 rintro e w' ⟨rfl,hb⟩
 exact ⟨hb,_,_,rfl,⟨rfl,rfl⟩,_,rfl,_,_,rfl,cvInt.2 ⟨rfl,hk⟩,_,_,rfl,cvBool.2 rfl,rfl⟩
theorem specEqItA (ar':Int) (rows':List (List Int)) (lw' gh' ps':List Int):AFn 9 [.d (itD ar rows lw gh ps),.d (itD ar' rows' lw' gh' ps')] [] (fun r os=>r=.d (.bool (eqIt ar ar' rows rows' lw lw' gh gh' ps ps'))∧os=[]):=by
 refine leaf_afn (fnOK (by kernel_rfl)) (fun _ _=>cvBool.2 rfl) ?_
 rintro w G _ ⟨v,_,rfl,h1,v',_,rfl,h2,rfl⟩ hC
 obtain ⟨a,n,c,la,ln,lc,ga,gn,gc,pa,pn,pc,rfl,hI⟩:=cv_iter hC h1
 obtain ⟨a',n',c',la',ln',lc',ga',gn',gc',pa',pn',pc',rfl,hJ⟩:=cv_iter hC h2
 exact specEqIt ar a n c rows la ln lc lw ga gn gc gh pa pn pc ps ar' a' n' c' rows' la' ln' lc' lw' ga' gn' gc' gh' pa' pn' pc' ps' w hI (Nat.le_refl _) hJ (Nat.le_refl _)
variable (hs:szIter rows lw gh ps≤1048576)
include hs
theorem implSeekA (v:Int):AFn 7 [.d (itD ar rows lw gh ps),.d (.int v)] [] (fun r os=>r=.tup [.d (itD ar rows lw gh (seekP ar rows lw gh ps v)),.d (.bool (standsF ar rows lw gh ps))]∧os=[]):=by
 refine itb_afn (fnOK (by kernel_rfl)) ?_
 rintro w G _ ⟨v1,_,rfl,h1,v2,_,rfl,h2,rfl⟩ hC
 obtain ⟨a,n,c,la,ln,lc,ga,gn,gc,pa,pn,pc,rfl,hI⟩:=cv_iter hC h1
 obtain ⟨rfl,hv⟩:=cvInt.1 h2
 exact implSeek ar a n c rows la ln lc lw ga gn gc gh pa pn pc ps v w hI (Nat.le_refl _) hs
theorem specSeekA (v:Int):AFn 8 [.d (itD ar rows lw gh ps),.d (.int v)] [] (fun r os=>r=.tup [.d (itD ar rows lw gh (seekP ar rows lw gh ps v)),.d (.bool (standsF ar rows lw gh ps))]∧os=[]):=by
 refine itb_afn (fnOK (by kernel_rfl)) ?_
 rintro w G _ ⟨v1,_,rfl,h1,v2,_,rfl,h2,rfl⟩ hC
 obtain ⟨a,n,c,la,ln,lc,ga,gn,gc,pa,pn,pc,rfl,hI⟩:=cv_iter hC h1
 obtain ⟨rfl,hv⟩:=cvInt.1 h2
 exact specSeek ar a n c rows la ln lc lw ga gn gc gh pa pn pc ps v w hI (Nat.le_refl _) hs
theorem specNextA:AFn 57 [.d (itD ar rows lw gh ps)] [] (fun r os=>r=.tup [.d (itD ar rows lw gh (nextP ar rows lw gh ps)),.d (.bool (standsF ar rows lw gh ps))]∧os=[]):=by
 refine itb_afn (fnOK (by kernel_rfl)) ?_
 rintro w G _ ⟨v1,_,rfl,h1,rfl⟩ hC
 obtain ⟨a,n,c,la,ln,lc,ga,gn,gc,pa,pn,pc,rfl,hI⟩:=cv_iter hC h1
 exact specNext ar a n c rows la ln lc lw ga gn gc gh pa pn pc ps w hI (Nat.le_refl _) hs
theorem specCloseA:AFn 58 [.d (itD ar rows lw gh ps)] [] (fun r os=>r=.tup [.d (itD ar rows (clT (clOK ar rows lw gh ps) ps.length lw) (clT (clOK ar rows lw gh ps) ps.length gh) (clT (clOK ar rows lw gh ps) ps.length ps)),.d (.bool (clOK ar rows lw gh ps))]∧os=[]):=by
 refine itb_afn (fnOK (by kernel_rfl)) ?_
 rintro w G _ ⟨v1,_,rfl,h1,rfl⟩ hC
 obtain ⟨a,n,c,la,ln,lc,ga,gn,gc,pa,pn,pc,rfl,hI⟩:=cv_iter hC h1
 exact specClose ar a n c rows la ln lc lw ga gn gc gh pa pn pc ps w hI (Nat.le_refl _) hs
theorem specOpenA:AFn 15 [.d (itD ar rows lw gh ps)] [] (fun r os=>r=.tup [.d (itD ar rows (opT (opOK ar rows lw gh ps) lw (bnd rows ps ps.length).1) (opT (opOK ar rows lw gh ps) gh (bnd rows ps ps.length).2) (opT (opOK ar rows lw gh ps) ps (bnd rows ps ps.length).1)),.d (.bool (opOK ar rows lw gh ps))]∧os=[]):=by
 refine itb_afn (fnOK (by kernel_rfl)) ?_
 rintro w G _ ⟨v1,_,rfl,h1,rfl⟩ hC
 obtain ⟨a,n,c,la,ln,lc,ga,gn,gc,pa,pn,pc,rfl,hI⟩:=cv_iter hC h1
 exact specOpen ar a n c rows la ln lc lw ga gn gc gh pa pn pc ps w hI (Nat.le_refl _) hs
end
theorem specNewItA (ar:Int) (rows:List (List Int)) (hs:rowsSz rows≤1048576):AFn 55 [.d (relD ar rows)] [] (fun r os=>r=.tup [.d (itD (niAr ar rows) (niRows ar rows) [] [] []),.d (.bool (validR ar rows))]∧os=[]):=by
 refine itb_afn (fnOK (by kernel_rfl)) ?_
 rintro w G _ ⟨v1,_,rfl,h1,rfl⟩ hC
 obtain ⟨a,n,c,rfl,har,hI⟩:=cv_rel hC h1
 exact specNewIt ar a n c rows w hI (Nat.le_refl _) har hs
end Go.Proofs.Ytfobmfngbfbfdaa
namespace Go.Proofs.Ytfobmfngbfbfdaa
set_option linter.unusedSimpArgs false
set_option linter.unusedVariables false
attribute [local go_sem ↓] reduceIte
attribute [local go_sem] Nat.reduceEqDiff Nat.reduceLT Nat.reduceAdd Nat.reduceLeDiff Nat.reduceMul Nat.reduceBEq Nat.reduceSub reduceCtorEq Int.reduceLE Int.reduceNeg Int.reduceLT
open Go.RowKit
end Go.Proofs.Ytfobmfngbfbfdaa
namespace Go.Proofs.Ytfobmfngbfbfdaa
set_option linter.unusedSimpArgs false
set_option linter.unusedVariables false
attribute [local go_sem ↓] reduceIte
attribute [local go_sem] Nat.reduceEqDiff Nat.reduceLT Nat.reduceAdd Nat.reduceLeDiff Nat.reduceMul Nat.reduceBEq Nat.reduceSub reduceCtorEq Int.reduceLE Int.reduceNeg Int.reduceLT
open Go.RowKit
theorem nz0:((0:Nat):Int)=0:=rfl
theorem map_snoc {α β:Type} (f:α→β) (l:List α) (x:α):(l ++ [x]).map f=l.map f ++ [f x]:=by simp
theorem rx_take {l:List (List Int)} {k:Nat} (h:k<l.length):l.take (k+1)=l.take k ++ [rx l k]:=by rw [List.take_succ_eq_append_getElem h,rx_lt h]
theorem getDR {f:List Int→DV} {l:List (List Int)} {i:Nat} {x:DV} (h:i<l.length):(l.map f).getD i x=f (rx l i):=getDV h
end Go.Proofs.Ytfobmfngbfbfdaa
namespace Go.Proofs.Ytfobmfngbfbfdaa
set_option linter.unusedSimpArgs false
set_option linter.unusedVariables false
attribute [local go_sem ↓] reduceIte
attribute [local go_sem] Nat.reduceEqDiff Nat.reduceLT Nat.reduceAdd Nat.reduceLeDiff Nat.reduceMul Nat.reduceBEq Nat.reduceSub reduceCtorEq Int.reduceLE Int.reduceNeg Int.reduceLT
open Go.RowKit
def rowsIn (ar:Int) (rows:List (List Int)):Prop:=∀ i,i<rows.length→((rx rows i).length:Int)=ar∧valB (rx rows i)=true
open Classical in
noncomputable def nrOK (ar:Int) (rows:List (List Int)):Bool:=decide (rowsIn ar rows) && validR ar (srt rows)
noncomputable def nrAr (ar:Int) (rows:List (List Int)):Int:=if nrOK ar rows=true then ar else 0
noncomputable def nrRows (ar:Int) (rows:List (List Int)):List (List Int):=if nrOK ar rows=true then srt rows else []
theorem nr_no {ar:Int} {rows:List (List Int)} (h:nrOK ar rows=false):nrAr ar rows=0∧nrRows ar rows=[]:=by simp [nrAr,nrRows,h]
theorem nr_yes {ar:Int} {rows:List (List Int)} (h:nrOK ar rows=true):nrAr ar rows=ar∧nrRows ar rows=srt rows:=by simp [nrAr,nrRows,h]
open Classical in
theorem nr_out {ar:Int} {rows:List (List Int)} {i:Nat} (hi:i<rows.length) (h:¬ (((rx rows i).length:Int)=ar∧valB (rx rows i)=true)):nrOK ar rows=false:=by
 unfold nrOK
 rw [decide_eq_false (fun hh=>h (hh i hi))];rfl
open Classical in
theorem nr_val {ar:Int} {rows:List (List Int)} (h:validR ar (srt rows)=false):nrOK ar rows=false:=by simp [nrOK,h]
open Classical in
theorem nr_in {ar:Int} {rows:List (List Int)} (h:rowsIn ar rows) (h2:validR ar (srt rows)=true):nrOK ar rows=true:=by simp [nrOK,h,h2]
theorem rowsIn.same {ar:Int} {rows:List (List Int)} (h:rowsIn ar rows):SameL ar.toNat rows:=fun x hx=>by
 obtain ⟨i,hi,rfl⟩:=List.mem_iff_getElem.1 hx
 have:=(h i hi).1
 rw [rx_lt hi] at this;omega
end Go.Proofs.Ytfobmfngbfbfdaa
namespace Go.Proofs.Ytfobmfngbfbfdaa
set_option linter.unusedSimpArgs false
set_option linter.unusedVariables false
attribute [local go_sem ↓] reduceIte
attribute [local go_sem] Nat.reduceEqDiff Nat.reduceLT Nat.reduceAdd Nat.reduceLeDiff Nat.reduceMul Nat.reduceBEq Nat.reduceSub reduceCtorEq Int.reduceLE Int.reduceNeg Int.reduceLT
open Go.RowKit
def pickL (cols row:List Int):List Int:=cols.map fun c=>ix row c.toNat
open Classical in
noncomputable def colsFit (ar:Int) (cols:List Int):Bool:=decide (cols.length≤5∧∀ i,i<cols.length→0≤ix cols i∧ix cols i≤ar - 1)
theorem pickL_take {cols row:List Int} {k:Nat} (hk:k<cols.length):pickL (cols.take (k+1)) row=pickL (cols.take k) row ++ [ix row (ix cols k).toNat]:=by
 unfold pickL
 rw [List.take_succ_eq_append_getElem hk,List.map_append,ix_lt hk];rfl
theorem pickL_len (cols row:List Int):(pickL cols row).length=cols.length:=by simp [pickL]
theorem fit_out {ar:Int} {cols:List Int} {i:Nat} (hi:i<cols.length) (h:¬ (0≤ix cols i∧ix cols i≤ar - 1)):colsFit ar cols=false:=by
 unfold colsFit;rw [decide_eq_false (fun hh=>h (hh.2 i hi))]
theorem fit_len {ar:Int} {cols:List Int} (h:¬ cols.length≤5):colsFit ar cols=false:=by
 unfold colsFit;rw [decide_eq_false (fun hh=>h hh.1)]
theorem fit_in {ar:Int} {cols:List Int} (h:cols.length≤5) (h2:∀ i,i<cols.length→0≤ix cols i∧ix cols i≤ar - 1):colsFit ar cols=true:=by
 unfold colsFit;rw [decide_eq_true ⟨h,h2⟩]
theorem fit_yes {ar:Int} {cols:List Int} (h:colsFit ar cols=true):cols.length≤5∧∀ i,i<cols.length→0≤ix cols i∧ix cols i≤ar - 1:=of_decide_eq_true h
noncomputable def prOK (ar:Int) (rows:List (List Int)) (cols:List Int):Bool:=(validR ar rows && colsFit ar cols) && nrOK cols.length (rows.map (pickL cols))
noncomputable def prAr (ar:Int) (rows:List (List Int)) (cols:List Int):Int:=if prOK ar rows cols=true then cols.length else 0
noncomputable def prRows (ar:Int) (rows:List (List Int)) (cols:List Int):List (List Int):=if prOK ar rows cols=true then srt (rows.map (pickL cols)) else []
theorem pr_no {ar:Int} {rows:List (List Int)} {cols:List Int} (h:prOK ar rows cols=false):prAr ar rows cols=0∧prRows ar rows cols=[]:=by simp [prAr,prRows,h]
theorem pr_nr {ar:Int} {rows:List (List Int)} {cols:List Int} (h1:validR ar rows=true) (h2:colsFit ar cols=true):prOK ar rows cols=nrOK cols.length (rows.map (pickL cols))∧prAr ar rows cols=nrAr cols.length (rows.map (pickL cols))∧prRows ar rows cols=nrRows cols.length (rows.map (pickL cols)):=by
 have e:prOK ar rows cols=nrOK cols.length (rows.map (pickL cols)):=by simp [prOK,h1,h2]
 refine ⟨e,?_,?_⟩
 ·unfold prAr nrAr;rw [e]
 ·unfold prRows nrRows;rw [e]
theorem rows_len {ar:Int} {rows:List (List Int)} (h:validR ar rows=true) {k:Nat} (hk:k<rows.length):((rx rows k).length:Int)=ar:=((validR_out h).2.2 k hk).1
end Go.Proofs.Ytfobmfngbfbfdaa
namespace Go.Proofs.Ytfobmfngbfbfdaa
set_option linter.unusedSimpArgs false
set_option linter.unusedVariables false
attribute [local go_sem ↓] reduceIte
attribute [local go_sem] Nat.reduceEqDiff Nat.reduceLT Nat.reduceAdd Nat.reduceLeDiff Nat.reduceMul Nat.reduceBEq Nat.reduceSub reduceCtorEq Int.reduceLE Int.reduceNeg Int.reduceLT
open Go.RowKit
noncomputable def btOK (ar:Int) (rows:List (List Int)) (cols:List Int):Bool:=(permB cols && decide (((cols.length:Nat):Int)=ar)) && prOK ar rows cols
noncomputable def btAr (ar:Int) (rows:List (List Int)) (cols:List Int):Int:=if btOK ar rows cols=true then prAr ar rows cols else 0
noncomputable def btRows (ar:Int) (rows:List (List Int)) (cols:List Int):List (List Int):=if btOK ar rows cols=true then prRows ar rows cols else []
theorem bt_no {ar:Int} {rows:List (List Int)} {cols:List Int} (h:btOK ar rows cols=false):btAr ar rows cols=0∧btRows ar rows cols=[]:=by simp [btAr,btRows,h]
theorem bt_yes {ar:Int} {rows:List (List Int)} {cols:List Int} (h:btOK ar rows cols=true):btAr ar rows cols=prAr ar rows cols∧btRows ar rows cols=prRows ar rows cols:=by simp [btAr,btRows,h]
end Go.Proofs.Ytfobmfngbfbfdaa
