/- Lemmas for the proof of FnExactMaximumPacking, part 24 of 26: no condition of their own. -/
import Derived.Test.YteiaofkgbdlpoaaDoorJ1
import Derived.Test.YteiaofkgbdlpoaaDoorJ21
import Derived.Test.YteiaofkgbdlpoaaDoorJ20
import Derived.Test.YteiaofkgbdlpoaaDoorJ22
import Derived.Test.YteiaofkgbdlpoaaDoorJ2
import Derived.Test.YteiaofkgbdlpoaaDoorJ23
namespace Go.Proofs.YteiaofkgbdlpoaaDoor
set_option linter.unusedSimpArgs false
set_option linter.unusedVariables false
open Go.RowKit
theorem cmpR_zero:∀ {a b:List Int},cmpR a b=0↔a=b
 | [],[]=>by simp [cmpR]
 | [],_ :: _=>by simp [cmpR]
 | _ :: _,[]=>by simp [cmpR]
 | x :: a,y :: b=>by
  simp only [cmpR]
  split
  ·rename_i e;rw [cmpR_zero,e];simp
  ·rename_i e
   unfold cmpI
   constructor
   ·intro h
    split at h
    ·omega
    ·split at h <;> omega
   ·intro h
    exact absurd (List.cons.inj h).1 e
theorem cmpR_self (a:List Int):cmpR a a=0:=cmpR_zero.2 rfl
theorem cmpR_tr:∀ {a b c:List Int},a.length=b.length→b.length=c.length→cmpR a b≤0→cmpR b c≤0→cmpR a c≤0∧(cmpR a b<0∨cmpR b c<0→cmpR a c<0)
 | [],[],[],_,_,_,_=>by simp [cmpR]
 | x :: a,y :: b,z :: c,h1,h2,h3,h4=>by
  simp only [List.length_cons,Nat.add_right_cancel_iff] at h1 h2
  simp only [cmpR,cmpI] at h3 h4 ⊢
  by_cases e1:x=y
  ·subst e1
   rw [if_pos rfl] at h3 ⊢
   by_cases e2:x=z
   ·subst e2
    rw [if_pos rfl] at h4 ⊢
    rw [if_pos rfl]
    exact cmpR_tr h1 h2 h3 h4
   ·rw [if_neg e2] at h4 ⊢
    rw [if_neg e2]
    split at h4
    ·rename_i hlt;rw [if_pos hlt];omega
    ·split at h4 <;> omega
  ·rw [if_neg e1] at h3 ⊢
   have hxy:x<y:=by
    split at h3
    ·assumption
    ·split at h3 <;> omega
   by_cases e2:y=z
   ·subst e2
    rw [if_neg e1,if_pos hxy]
    omega
   ·rw [if_neg e2] at h4
    have hyz:y<z:=by
     split at h4
     ·assumption
     ·split at h4 <;> omega
    rw [if_neg (by omega),if_pos (show x<z by omega)]
    omega
theorem cmpI_anti (x y:Int):cmpI y x = - cmpI x y:=by
 unfold cmpI
 split <;> split <;> first | omega | (split <;> omega) | skip
theorem cmpR_anti:∀ a b:List Int,cmpR b a = - cmpR a b
 | [],[]=>by simp [cmpR]
 | [],_ :: _=>by simp [cmpR]
 | _ :: _,[]=>by simp [cmpR]
 | x :: a,y :: b=>by
  simp only [cmpR]
  by_cases e:x=y
  ·rw [if_pos e,if_pos e.symm];exact cmpR_anti a b
  ·rw [if_neg e,if_neg (fun h=>e h.symm)];exact cmpI_anti x y
def Asc (rows:List (List Int)):Prop:=rows.Pairwise (fun a b=>cmpR a b<0)
def SameL (n:Nat) (rows:List (List Int)):Prop:=∀ x∈rows,x.length=n
theorem cmpR_lt_tr {a b c:List Int} {n:Nat} (ha:a.length=n) (hb:b.length=n) (hc:c.length=n) (h1:cmpR a b<0) (h2:cmpR b c≤0):cmpR a c<0:=(cmpR_tr (by omega) (by omega) (by omega) h2).2 (.inl h1)
theorem cmpR_lt_tr2 {a b c:List Int} {n:Nat} (ha:a.length=n) (hb:b.length=n) (hc:c.length=n) (h1:cmpR a b≤0) (h2:cmpR b c<0):cmpR a c<0:=(cmpR_tr (by omega) (by omega) h1 (by omega)).2 (.inr h2)
def insR (x:List Int):List (List Int)→List (List Int)
 | []=>[x]
 | y :: l=>if cmpR x y<0 then x :: y :: l else if cmpR x y=0 then y :: l else y :: insR x l
def srt:List (List Int)→List (List Int)
 | []=>[]
 | x :: l=>insR x (srt l)
theorem mem_insR {x z:List Int}:∀ {l:List (List Int)},z∈insR x l↔z=x∨z∈l
 | []=>by simp [insR]
 | y :: l=>by
  simp only [insR]
  split
  ·simp
  ·split
   ·rename_i h
    have:=cmpR_zero.1 h
    subst this
    simp
   ·rw [List.mem_cons,mem_insR,List.mem_cons]
    constructor
    ·rintro (h | h | h)
     ·exact .inr (.inl h)
     ·exact .inl h
     ·exact .inr (.inr h)
    ·rintro (h | h | h)
     ·exact .inr (.inl h)
     ·exact .inl h
     ·exact .inr (.inr h)
theorem mem_srt {z:List Int}:∀ {l:List (List Int)},z∈srt l↔z∈l
 | []=>by simp [srt]
 | x :: l=>by simp only [srt];rw [mem_insR,mem_srt,List.mem_cons]
theorem SameL.srt {n:Nat} {l:List (List Int)} (h:SameL n l):SameL n (srt l):=fun x hx=>h x (mem_srt.1 hx)
theorem asc_insR {n:Nat} {x:List Int} (hx:x.length=n):∀ {l:List (List Int)},SameL n l→Asc l→Asc (insR x l)
 | [],_,_=>by simp [insR,Asc]
 | y :: l,hl,h=>by
  have h1:=List.pairwise_cons.1 h
  have hy:=hl y (List.mem_cons_self ..)
  simp only [insR]
  split
  ·rename_i hlt
   refine List.pairwise_cons.2 ⟨fun z hz=>?_,h⟩
   rcases List.mem_cons.1 hz with rfl | hz'
   ·exact hlt
   ·exact cmpR_lt_tr hx hy (hl z hz) hlt (by have:=h1.1 z hz';omega)
  ·split
   ·exact h
   ·rename_i h2 h3
    refine List.pairwise_cons.2 ⟨fun z hz=>?_,asc_insR hx (fun z hz=>hl z (List.mem_cons_of_mem _ hz)) h1.2⟩
    rcases mem_insR.1 hz with rfl | hz'
    ·have:=cmpR_anti z y;omega
    ·exact h1.1 z hz'
theorem asc_srt {n:Nat}:∀ {l:List (List Int)},SameL n l→Asc (srt l)
 | [],_=>by simp [srt,Asc]
 | x :: l,h=>asc_insR (h x (List.mem_cons_self ..)) (SameL.srt fun z hz=>h z (List.mem_cons_of_mem _ hz)) (asc_srt fun z hz=>h z (List.mem_cons_of_mem _ hz))
theorem asc_uniq:∀ {a b:List (List Int)},Asc a→Asc b→(∀ x,x∈a↔x∈b)→a=b
 | [],[],_,_,_=>rfl
 | [],y :: b,_,_,h=>by have:=(h y).2 (List.mem_cons_self ..);simp at this
 | x :: a,[],_,_,h=>by have:=(h x).1 (List.mem_cons_self ..);simp at this
 | x :: a,y :: b,ha,hb,h=>by
  have h1:=List.pairwise_cons.1 ha
  have h2:=List.pairwise_cons.1 hb
  have e:x=y:=by
   rcases List.mem_cons.1 ((h x).1 (List.mem_cons_self ..)) with e | e
   ·exact e
   ·rcases List.mem_cons.1 ((h y).2 (List.mem_cons_self ..)) with e' | e'
    ·exact e'.symm
    ·have g1:=h1.1 y e';have g2:=h2.1 x e;have:=cmpR_anti x y;omega
  subst e
  have hna:x ∉ a:=fun hx=>by have:=h1.1 x hx;rw [cmpR_self] at this;omega
  have hnb:x ∉ b:=fun hx=>by have:=h2.1 x hx;rw [cmpR_self] at this;omega
  rw [asc_uniq h1.2 h2.2 fun z=>?_]
  constructor
  ·intro hz
   rcases List.mem_cons.1 ((h z).1 (List.mem_cons_of_mem _ hz)) with rfl | h'
   ·exact absurd hz hna
   ·exact h'
  ·intro hz
   rcases List.mem_cons.1 ((h z).2 (List.mem_cons_of_mem _ hz)) with rfl | h'
   ·exact absurd hz hnb
   ·exact h'
theorem srt_eq {n:Nat} {l out:List (List Int)} (hl:SameL n l) (h1:Asc out) (h2:∀ x,x∈out↔x∈l):srt l=out:=asc_uniq (asc_srt hl) h1 fun x=>by rw [mem_srt,h2]
theorem insR_len (x:List Int):∀ l:List (List Int),(insR x l).length≤l.length+1
 | []=>by simp [insR]
 | y :: l=>by
  simp only [insR]
  split
  ·simp
  ·split
   ·simp
   ·have:=insR_len x l;simp only [List.length_cons];omega
theorem srt_len:∀ l:List (List Int),(srt l).length≤l.length
 | []=>by simp [srt]
 | x :: l=>by have:=insR_len x (srt l);have:=srt_len l;simp only [srt,List.length_cons];omega
theorem asc_snoc {out:List (List Int)} {x:List Int} (h:Asc out) (hx:∀ y∈out,cmpR y x<0):Asc (out ++ [x]):=by
 unfold Asc
 rw [List.pairwise_append]
 exact ⟨h,by simp,fun y hy z hz=>by rw [List.mem_singleton.1 hz];exact hx y hy⟩
structure Mrg (q:Nat) (l a b out:List (List Int)):Prop where
 aa:Asc a
 ab:Asc b
 ao:Asc out
 lt:∀ x∈out,∀ y,y∈a∨y∈b→cmpR x y<0
 mem:∀ x,(x∈out∨x∈a∨x∈b)↔x∈l
 same:SameL q l
 len:out.length+a.length+b.length≤l.length
theorem Mrg.start {q:Nat} {l:List (List Int)} (h:SameL q l) (m:Nat):Mrg q l (srt (l.take m)) (srt (l.drop m)) []:=by
 have h1:SameL q (l.take m):=fun x hx=>h x (List.mem_of_mem_take hx)
 have h2:SameL q (l.drop m):=fun x hx=>h x (List.mem_of_mem_drop hx)
 refine ⟨asc_srt h1,asc_srt h2,by simp [Asc],by simp,fun x=>?_,h,?_⟩
 ·rw [mem_srt,mem_srt]
  have e:x∈l↔x∈l.take m∨x∈l.drop m:=by rw [← List.mem_append,List.take_append_drop]
  rw [e];simp
 ·have g1:=srt_len (l.take m);have g2:=srt_len (l.drop m)
  simp only [List.length_take,List.length_drop] at g1 g2
  simp only [List.length_nil];omega
theorem Mrg.fin {q:Nat} {l out:List (List Int)} (h:Mrg q l [] [] out):srt l=out:=srt_eq h.same h.ao fun x=>by rw [← h.mem x];simp
theorem Mrg.sa {q:Nat} {l a b out:List (List Int)} (h:Mrg q l a b out):SameL q a:=fun x hx=>h.same x ((h.mem x).1 (.inr (.inl hx)))
theorem Mrg.sb {q:Nat} {l a b out:List (List Int)} (h:Mrg q l a b out):SameL q b:=fun x hx=>h.same x ((h.mem x).1 (.inr (.inr hx)))
theorem Mrg.swap {q:Nat} {l a b out:List (List Int)} (h:Mrg q l a b out):Mrg q l b a out :=
 ⟨h.ab,h.aa,h.ao,fun x hx y hy=>h.lt x hx y hy.symm,fun x=>by rw [← h.mem x];constructor <;> (rintro (h | h | h) <;> simp [h]),h.same,by have:=h.len;omega⟩
theorem Mrg.left {q:Nat} {l a b out:List (List Int)} {x:List Int} (h:Mrg q l (x :: a) b out) (hx:∀ y,b.head? = some y→cmpR x y<0):Mrg q l a b (out ++ [x]):=by
 have h1:=List.pairwise_cons.1 h.aa
 refine ⟨h1.2,h.ab,asc_snoc h.ao fun y hy=>h.lt y hy x (.inl (List.mem_cons_self ..)),fun z hz y hy=>?_,fun z=>?_,h.same,by have:=h.len;simp at this ⊢;omega⟩
 ·rcases List.mem_append.1 hz with hz | hz
  ·exact h.lt z hz y (hy.imp (fun h=>List.mem_cons_of_mem _ h) id)
  ·rw [List.mem_singleton] at hz
   subst hz
   rcases hy with hy | hy
   ·exact h1.1 y hy
   ·cases b with
    | nil=>cases hy
    | cons w b =>
     have h2:=hx w rfl
     rcases List.mem_cons.1 hy with rfl | hy'
     ·exact h2
     ·exact cmpR_lt_tr (h.sa z (List.mem_cons_self ..)) (h.sb w (List.mem_cons_self ..)) (h.sb y hy) h2 (by have:=(List.pairwise_cons.1 h.ab).1 y hy';omega)
 ·rw [← h.mem z];simp only [List.mem_append,List.mem_cons,List.not_mem_nil,or_false]
  constructor
  ·rintro ((h | h) | h | h)
   ·exact .inl h
   ·exact .inr (.inl (.inl h))
   ·exact .inr (.inl (.inr h))
   ·exact .inr (.inr h)
  ·rintro (h | (h | h) | h)
   ·exact .inl (.inl h)
   ·exact .inl (.inr h)
   ·exact .inr (.inl h)
   ·exact .inr (.inr h)
theorem Mrg.both {q:Nat} {l a b out:List (List Int)} {x:List Int} (h:Mrg q l (x :: a) (x :: b) out):Mrg q l a b (out ++ [x]):=by
 have h1:=List.pairwise_cons.1 h.aa
 have h2:=List.pairwise_cons.1 h.ab
 refine ⟨h1.2,h2.2,asc_snoc h.ao fun y hy=>h.lt y hy x (.inl (List.mem_cons_self ..)),fun z hz y hy=>?_,fun z=>?_,h.same,by have:=h.len;simp at this ⊢;omega⟩
 ·rcases List.mem_append.1 hz with hz | hz
  ·exact h.lt z hz y (hy.imp (fun h=>List.mem_cons_of_mem _ h) (fun h=>List.mem_cons_of_mem _ h))
  ·rw [List.mem_singleton] at hz
   subst hz
   rcases hy with hy | hy
   ·exact h1.1 y hy
   ·exact h2.1 y hy
 ·rw [← h.mem z];simp only [List.mem_append,List.mem_cons,List.not_mem_nil,or_false]
  constructor
  ·rintro ((h | h) | h | h)
   ·exact .inl h
   ·exact .inr (.inl (.inl h))
   ·exact .inr (.inl (.inr h))
   ·exact .inr (.inr (.inr h))
  ·rintro (h | (h | h) | (h | h))
   ·exact .inl (.inl h)
   ·exact .inl (.inr h)
   ·exact .inr (.inl h)
   ·exact .inl (.inr h)
   ·exact .inr (.inr h)
structure Mrg2 (q:Nat) (l a b out:List (List Int)):Prop where
 aa:Asc a
 ab:Asc b
 ao:Asc out
 le:∀ x∈out,∀ y,y∈a∨y∈b→cmpR x y≤0
 mem:∀ x,(x∈out∨x∈a∨x∈b)↔x∈l
 same:SameL q l
 len:out.length+a.length+b.length≤l.length
theorem Mrg2.start {q:Nat} {l:List (List Int)} (h:SameL q l) (m:Nat):Mrg2 q l (srt (l.take m)) (srt (l.drop m)) []:=by
 have:=Mrg.start h m
 exact ⟨this.aa,this.ab,this.ao,by simp,this.mem,this.same,this.len⟩
theorem Mrg2.fin {q:Nat} {l out:List (List Int)} (h:Mrg2 q l [] [] out):srt l=out:=srt_eq h.same h.ao fun x=>by rw [← h.mem x];simp
theorem Mrg2.sa {q:Nat} {l a b out:List (List Int)} (h:Mrg2 q l a b out):SameL q a:=fun x hx=>h.same x ((h.mem x).1 (.inr (.inl hx)))
theorem Mrg2.sb {q:Nat} {l a b out:List (List Int)} (h:Mrg2 q l a b out):SameL q b:=fun x hx=>h.same x ((h.mem x).1 (.inr (.inr hx)))
theorem Mrg2.so {q:Nat} {l a b out:List (List Int)} (h:Mrg2 q l a b out):SameL q out:=fun x hx=>h.same x ((h.mem x).1 (.inl hx))
theorem Mrg2.swap {q:Nat} {l a b out:List (List Int)} (h:Mrg2 q l a b out):Mrg2 q l b a out :=
 ⟨h.ab,h.aa,h.ao,fun x hx y hy=>h.le x hx y hy.symm,fun x=>by rw [← h.mem x];constructor <;> (rintro (h | h | h) <;> simp [h]),h.same,by have:=h.len;omega⟩
theorem Mrg2.skip {q:Nat} {l a b out:List (List Int)} {x:List Int} (h:Mrg2 q l (x :: a) b out) (hx:x∈out):Mrg2 q l a b out:=by
 have h1:=List.pairwise_cons.1 h.aa
 refine ⟨h1.2,h.ab,h.ao,fun z hz y hy=>h.le z hz y (hy.imp (fun h=>List.mem_cons_of_mem _ h) id),fun z=>?_,h.same,by have:=h.len;simp at this ⊢;omega⟩
 rw [← h.mem z];simp only [List.mem_cons]
 constructor
 ·rintro (h | h | h)
  ·exact .inl h
  ·exact .inr (.inl (.inr h))
  ·exact .inr (.inr h)
 ·rintro (h | (h | h) | h)
  ·exact .inl h
  ·subst h;exact .inl hx
  ·exact .inr (.inl h)
  ·exact .inr (.inr h)
theorem Mrg2.left {q:Nat} {l a b out:List (List Int)} {x:List Int} (h:Mrg2 q l (x :: a) b out) (hx:∀ y,b.head? = some y→cmpR x y≤0) (ho:∀ y∈out,cmpR y x<0):Mrg2 q l a b (out ++ [x]):=by
 have h1:=List.pairwise_cons.1 h.aa
 refine ⟨h1.2,h.ab,asc_snoc h.ao ho,fun z hz y hy=>?_,fun z=>?_,h.same,by have:=h.len;simp at this ⊢;omega⟩
 ·rcases List.mem_append.1 hz with hz | hz
  ·exact h.le z hz y (hy.imp (fun h=>List.mem_cons_of_mem _ h) id)
  ·rw [List.mem_singleton] at hz
   subst hz
   rcases hy with hy | hy
   ·have:=h1.1 y hy;omega
   ·cases b with
    | nil=>cases hy
    | cons w b =>
     have h2:=hx w rfl
     rcases List.mem_cons.1 hy with rfl | hy'
     ·exact h2
     ·have:=cmpR_lt_tr2 (h.sa z (List.mem_cons_self ..)) (h.sb w (List.mem_cons_self ..)) (h.sb y hy) h2 ((List.pairwise_cons.1 h.ab).1 y hy')
      omega
 ·rw [← h.mem z];simp only [List.mem_append,List.mem_cons,List.not_mem_nil,or_false]
  constructor
  ·rintro ((h | h) | h | h)
   ·exact .inl h
   ·exact .inr (.inl (.inl h))
   ·exact .inr (.inl (.inr h))
   ·exact .inr (.inr h)
  ·rintro (h | (h | h) | h)
   ·exact .inl (.inl h)
   ·exact .inl (.inr h)
   ·exact .inr (.inl h)
   ·exact .inr (.inr h)
theorem Mrg2.less {q:Nat} {l a b out:List (List Int)} {x z:List Int} (h:Mrg2 q l (x :: a) b (out ++ [z])) (hz:cmpR z x ≠ 0):∀ y∈out ++ [z],cmpR y x<0:=fun y hy=>by
 have hzx:=h.le z (by simp) x (.inl (List.mem_cons_self ..))
 rcases List.mem_append.1 hy with hy' | hy'
 ·have h1:=(List.pairwise_append.1 h.ao).2.2 y hy' z (by simp)
  exact cmpR_lt_tr (h.so y hy) (h.so z (by simp)) (h.sa x (List.mem_cons_self ..)) h1 hzx
 ·rw [List.mem_singleton] at hy'
  subst hy';omega
end Go.Proofs.YteiaofkgbdlpoaaDoor
namespace Go.Proofs.YteiaofkgbdlpoaaDoor
set_option linter.unusedSimpArgs false
set_option linter.unusedVariables false
open Go.RowKit
def intsQ:RowP (List Int):=fun lo hi w a n c xs=>IntsA true lo hi w a n c xs
abbrev RowsS:=SepA intsQ
theorem RowsS.rows {lo hi:Nat} {w:World} {a:Option Addr} {n c:Nat} {xss:List (List Int)} (h:RowsS lo hi w a n c xss):RowsA true lo hi w a n c xss:=SepA.sl (R:=intsR) (fun {lo hi w ra rn rc x} h=>⟨ra,rn,rc,rfl,h⟩) intsOK h
end Go.Proofs.YteiaofkgbdlpoaaDoor
namespace Go.Proofs.YteiaofkgbdlpoaaDoor
set_option linter.unusedSimpArgs false
set_option linter.unusedVariables false
open Go.RowKit
theorem ints_cxc {C:Nat→Nat→Prop} {fz:Bool} {lo hi:Nat} {w:World} {a:Option Addr} {n c:Nat} {xs:List Int} (h:IntsA fz lo hi w a n c xs) (hC:∀ b i,lo≤b→b<hi→w.cell? ⟨b,i,none⟩ ≠ none→C b i):CX C w (intsD xs) [.slice a n c]:=by
 obtain ⟨h1,h2,h3,h4,h5,h6⟩:=h
 refine ⟨a,n,c,xs.map (Value.int .i64),rfl,by simpa using h1,CXk.singles.2 ⟨by simp,fun i x hx=>?_⟩,by simp [h1],h2,h3,h6,fun u hu=>?_,fun hn=>?_⟩
 ·rw [List.getElem?_map] at hx
  cases e:xs[i]? with
  | none=>rw [e] at hx;cases hx
  | some y=>rw [e] at hx;cases hx;exact ⟨.int .i64 y,by simp [e],rfl,h4 y (List.mem_of_getElem? e)⟩
 ·obtain ⟨x,_,rfl⟩:=List.mem_map.1 hu;rfl
 ·obtain ⟨b,off,ha,hl,hb,hc⟩:=h5 hn
  refine ⟨b,off,ha,fun i u hu=>?_⟩
  rw [List.getElem?_map] at hu
  cases e:xs[i]? with
  | none=>rw [e] at hu;cases hu
  | some y =>
   rw [e] at hu
   cases hu
   have hi:i<xs.length:=(List.getElem?_eq_some_iff.1 e).1
   have h8:=(hc i (by omega)).1
   exact ⟨hC _ _ hl hb (by rw [h8];exact fun x=>(by cases x)),by rw [h8,ix_lt hi,(List.getElem?_eq_some_iff.1 e).2]⟩
end Go.Proofs.YteiaofkgbdlpoaaDoor
namespace Go.Proofs.YteiaofkgbdlpoaaDoor
set_option linter.unusedSimpArgs false
set_option linter.unusedVariables false
open Go.RowKit
theorem CXk.mk {C:Nat→Nat→Prop} {w:World} {k:Nat}:∀ {m:List DV} {us:List Value},us.length=m.length*k→(∀ i x,m[i]? = some x→CX C w x ((us.drop (i*k)).take k))→CXk C w k m us
 | [],us,h,_=>List.eq_nil_of_length_eq_zero (by simpa using h)
 | x :: m,us,h,hh=>by
  have e:(x :: m).length*k=k+m.length*k:=by rw [List.length_cons,Nat.add_mul,Nat.one_mul,Nat.add_comm]
  rw [e] at h
  refine ⟨us.take k,us.drop k,(List.take_append_drop k us).symm,by simpa using hh 0 x rfl,by rw [List.length_take];omega,CXk.mk (by rw [List.length_drop,h];omega) fun i y hy=>?_⟩
  have:=hh (i+1) y (by simpa using hy)
  rw [List.drop_drop]
  rwa [show (i+1)*k=k+i*k by rw [Nat.add_mul,Nat.one_mul,Nat.add_comm]] at this
theorem atoms_cxc {C:Nat→Nat→Prop} {fz:Bool} {lo hi:Nat} {w:World} {a:Option Addr} {n c:Nat} {xs:List AtomD} (h:AtomsA fz lo hi w a n c xs) (hC:∀ b i,lo≤b→b<hi→w.cell? ⟨b,i,none⟩ ≠ none→C b i):CX C w (.sl 2 (xs.map atomDV)) [.slice a n c]:=by
 have hl:=h.len
 by_cases hn:n=0
 ·subst hn
  obtain rfl:xs=[]:=List.eq_nil_of_length_eq_zero hl
  exact ⟨a,0,c,[],rfl,rfl,rfl,rfl,h.2.1,h.2.2.1,h.2.2.2.2,fun _ h=>(by cases h),fun h=>absurd h (Nat.lt_irrefl 0)⟩
 ·obtain ⟨b,off,rfl⟩:=atomsSome h (by omega)
  have hv:∀ i,i<n*2→∃ u,w.cell? ⟨b,off+i,none⟩=some u∧u.oneCell'=true:=fun i hi=>by
   obtain ⟨_,_,_,ra,rn,rc,g1,g2,_⟩:=atomsAt h (show i / 2<n by omega)
   rcases Nat.mod_two_eq_zero_or_one i with e | e
   ·exact ⟨.string (ax xs (i / 2)).nm,by rw [← g1];congr 2;omega,rfl⟩
   ·exact ⟨.slice ra rn rc,by rw [← g2];congr 2;omega,rfl⟩
  have hvs:∀ i u,((List.range (n*2)).map (fun i=>(w.cell? ⟨b,off+i,none⟩).getD undef))[i]? = some u→i<n*2∧w.cell? ⟨b,off+i,none⟩=some u∧u.oneCell'=true:=fun i u hu=>by
   have hi:i<n*2:=by have:=(List.getElem?_eq_some_iff.1 hu).1;simpa using this
   obtain ⟨x,hx,h1⟩:=hv i hi
   rw [List.getElem?_map,List.getElem?_range hi,Option.map_some,hx] at hu
   cases hu
   exact ⟨hi,hx,h1⟩
  refine ⟨_,n,c,(List.range (n*2)).map (fun i=>(w.cell? ⟨b,off+i,none⟩).getD undef),rfl,by simpa using hl,CXk.mk (by simp [hl]) fun i x hx=>?_,by simp,h.2.1,h.2.2.1,h.2.2.2.2,fun u hu=>?_,fun _=>⟨b,off,rfl,fun i u hu=>?_⟩⟩
  ·rw [List.getElem?_map] at hx
   have hi:i<xs.length:=by
    cases e:xs[i]? with
    | none=>rw [e] at hx;cases hx
    | some y=>exact (List.getElem?_eq_some_iff.1 e).1
   rw [List.getElem?_eq_getElem hi,Option.map_some,← ax_lt hi] at hx
   cases hx
   obtain ⟨hb1,hb2,hsz,ra,rn,rc,g1,g2,g3,_⟩:=atomsAt h (show i<n by omega)
   have e:(((List.range (n*2)).map (fun i=>(w.cell? ⟨b,off+i,none⟩).getD undef)).drop (i*2)).take 2=[.string (ax xs i).nm,.slice ra rn rc]:=by
    apply List.ext_getElem?
    intro j
    rw [List.getElem?_take]
    split
    ·rename_i hj
     rw [List.getElem?_drop,List.getElem?_map,List.getElem?_range (by omega),Option.map_some]
     rcases (by omega:j=0∨j=1) with rfl | rfl
     ·simp [g1]
     ·rw [show off+(i*2+1)=off+i*2+1 by omega,g2];rfl
    ·rename_i hj
     rw [List.getElem?_eq_none (by simp;omega)]
   rw [e]
   exact ⟨[.string (ax xs i).nm],_,rfl,rfl,[.slice ra rn rc],[],rfl,ints_cxc g3 hC,rfl⟩
  ·obtain ⟨i,hi,rfl⟩:=List.mem_iff_getElem.1 hu
   exact (hvs i _ (List.getElem?_eq_getElem hi)).2.2
  ·obtain ⟨h1,h2,_⟩:=hvs i u hu
   obtain ⟨hb1,hb2,_⟩:=atomsAt h (show i / 2<n by omega)
   exact ⟨hC _ _ hb1 hb2 (by rw [h2];exact fun x=>(by cases x)),h2⟩
theorem nm_of {fz:Bool} {lo hi:Nat} {w:World} {a:Option Addr} {n c:Nat} {xs:List AtomD} (h:AtomsA fz lo hi w a n c xs):NmOK xs:=by
 intro x hx
 obtain ⟨i,hi,rfl⟩:=List.mem_iff_getElem.1 hx
 have hl:=h.len
 obtain ⟨b,off,rfl⟩:=atomsSome h (by omega)
 have:=(atomsAt h (show i<n by omega)).2.2.1
 rwa [ax_lt hi] at this
theorem query_cvs {fz:Bool} {lo hi lo':Nat} {w:World} {nv:Int} {a:Option Addr} {n c:Nat} {xs:List AtomD} {ua:Option Addr} {un uc:Nat} {us:List Int} (h:QueryA fz lo hi w nv a n c xs ua un uc us) (hh:hi≤w.heap.size) (hl:lo'≤lo) (G:Gh) (hG:G.C=cellsC lo' w):CV G w (.d (queryD nv xs us)) (queryV nv a n c ua un uc) :=
 cvAgg.2 ⟨[.int .i64 nv,.slice a n c,.slice ua un uc],⟨[.int .i64 nv],_,rfl,⟨rfl,h.1⟩,[.slice a n c],_,rfl,atoms_cxc h.2.1 (fun b i h1 h2 h3=>by rw [hG];exact ⟨by omega,by omega,h3⟩),[.slice ua un uc],[],rfl,ints_cxc h.2.2 (fun b i h1 h2 h3=>by rw [hG];exact ⟨by omega,by omega,h3⟩),rfl⟩,rfl⟩
end Go.Proofs.YteiaofkgbdlpoaaDoor
namespace Go.Proofs.YteiaofkgbdlpoaaDoor
set_option linter.unusedSimpArgs false
set_option linter.unusedVariables false
open Go.RowKit
section
variable {lo hi B:Nat} {w w':World}
theorem beGlob (h:GlobW w) (hb:Below B w w') (hh:1≤B):GlobW w':=h.below (hb.block 0 hh)
theorem kpGlob (h:GlobW w) (hb:Keeps 0 1 w w'):GlobW w':=h.below (hb 0 (Nat.le_refl _) (by omega))
end
theorem afnG_out {f:FuncId} {args:List AV} {X:AV} (h:AFnG f args (fun r os=>r=X∧os=[])) {w:World} (hg:GlobW w) {C0:Nat→Nat→Prop} (hC0:∀ b i,C0 b i→b<w.heap.size) {vs:List Value} (hv:∀ G:Gh,G.C=C0→CVs G w args vs):Calls Tryd.prog f vs.toArray w (Out C0 X w):=by
 refine (h.2 w ⟨C0,fun _=>.slice none 0 0,fun _=>0,fun _=>0,fun _=>0⟩ vs hg (hv _ rfl) hC0).mono ?_
 rintro e w' ⟨v,r,os,G',rfl,hp⟩
 obtain ⟨rfl,rfl⟩:=hp.post
 exact ⟨v,G',rfl,hp.res,⟨hp.fr.os,hp.fr.tape,hp.fr.output,hp.fr.size,fun k hk=>hp.fr.block k hk (fun ⟨i,hi,_⟩=>absurd hi (Nat.not_lt_zero _))⟩,hp.cs,hp.lc,hp.uf⟩
section
variable {fz:Bool} {lo hi:Nat} {w:World} {nv:Int} {a:Option Addr} {n c:Nat} {xs:List AtomD} {ua:Option Addr} {un uc:Nat} {us:List Int}
theorem specMP (h:QueryA fz lo hi w nv a n c xs ua un uc us) (hh:hi≤w.heap.size) (hlw:lo≤w.heap.size):Calls Tryd.prog 21 #[queryV nv a n c ua un uc] w (GvRatR lo w (mpF nv xs us).pt (mpF nv xs us).val (mpF nv xs us).found) :=
 rat_read (specMaxPackA nv xs us (nm_of h.2.1)) (vs:=[queryV nv a n c ua un uc]) (fun G hG=>⟨_,_,rfl,query_cvs h hh (Nat.le_refl _) G hG,rfl⟩) hlw
theorem implMP (hg:GlobW w) (h:QueryA fz lo hi w nv a n c xs ua un uc us) (hh:hi≤w.heap.size):Calls Tryd.prog 22 #[queryV nv a n c ua un uc] w (GvRatS w (mpF nv xs us).pt (mpF nv xs us).val (mpF nv xs us).found) :=
 rat_own' (afnG_out (implMaxPackG nv xs us (nm_of h.2.1)) hg (C0:=cellsC 0 w) (fun b i h=>h.2.1) (vs:=[queryV nv a n c ua un uc]) (fun G hG=>⟨_,_,rfl,query_cvs h hh (Nat.zero_le _) G hG,rfl⟩))
end
end Go.Proofs.YteiaofkgbdlpoaaDoor
