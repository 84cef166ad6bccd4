/- Lemmas for the proof of FnCoverDuality, part 20 of 26: no condition of their own. -/
import Derived.Test.YtkohkoiegmcghaaDoorJ4
import Derived.Test.YtkohkoiegmcghaaDoorJ19
import Derived.Laws.BytesArg
namespace Go.Proofs.YtkohkoiegmcghaaDoor
set_option linter.unusedSimpArgs false
set_option linter.unusedVariables false
open Go.RowKit
theorem pigeon:∀ (n k:Nat) (f:Nat→Int),(∀ i,i<k→0≤f i∧f i<n)→(∀ i j,i<j→j<k→f i ≠ f j)→k≤n
 | 0,k,f,h1,_=>by
  by_cases hk:0<k
  ·have:=h1 0 hk;omega
  ·omega
 | n+1,k,f,h1,h2=>by
  by_cases h:∃ i,i<k∧f i=n
  ·obtain ⟨i0,hi0,he⟩:=h
   have:=pigeon n (k - 1) (fun j=>if j<i0 then f j else f (j+1)) (fun j hj=>by
    show 0≤(if j<i0 then f j else f (j+1))∧(if j<i0 then f j else f (j+1))<n
    split
    ·next g =>
     have a:=h1 j (by omega);have b:=h2 j i0 g hi0;rw [he] at b
     exact ⟨a.1,by omega⟩
    ·next g =>
     have a:=h1 (j+1) (by omega);have b:=h2 i0 (j+1) (by omega) (by omega);rw [he] at b
     exact ⟨a.1,by omega⟩) (fun i j hij hj=>by
    show (if i<i0 then f i else f (i+1)) ≠ (if j<i0 then f j else f (j+1))
    split
    ·split
     ·exact h2 i j hij (by omega)
     ·exact h2 i (j+1) (by omega) (by omega)
    ·split
     ·omega
     ·exact h2 (i+1) (j+1) (by omega) (by omega))
   omega
  ·have:=pigeon n k f (fun i hi=>by
    have a:=h1 i hi
    have b:f i ≠ n:=fun e=>h ⟨i,hi,e⟩
    exact ⟨a.1,by omega⟩) h2
   omega
theorem firstIx_sr (p:Nat→Prop) (n:Nat):(firstIx p n<n→p (firstIx p n))∧∀ j,j<firstIx p n→¬ p j:=by
 induction n with
 | zero=>exact ⟨fun h=>by simp [firstIx] at h,fun j hj=>by simp [firstIx] at hj⟩
 | succ n ih =>
  by_cases h1:firstIx p n<n
  ·have e:firstIx p (n+1)=firstIx p n:=by simp only [firstIx];rw [if_pos h1]
   rw [e];exact ⟨fun _=>ih.1 h1,ih.2⟩
  ·have h0:=firstIx_le p n
   have hn:firstIx p n=n:=by omega
   rw [hn] at ih
   by_cases h2:p n
   ·have e:firstIx p (n+1)=n:=by simp only [firstIx];rw [if_neg h1,if_pos h2]
    rw [e];exact ⟨fun _=>h2,ih.2⟩
   ·have e:firstIx p (n+1)=n+1:=by simp only [firstIx];rw [if_neg h1,if_neg h2]
    rw [e];exact ⟨fun h=>by omega,fun j hj=>by
     by_cases ej:j=n
     ·subst ej;exact h2
     ·exact ih.2 j (by omega)⟩
theorem findF_miss {xs:List Int} {v:Int} (h:¬ 0≤findF xs v):∀ i,i<xs.length→ix xs i ≠ v:=by
 intro i hi e
 have hs:=firstIx_sr (fun i=>ix xs i=v) xs.length
 unfold findF at h
 split at h
 ·omega
 ·next g=>exact hs.2 i (by omega) e
theorem findF_hit {xs:List Int} {v:Int} (h:0≤findF xs v):∃ i,i<xs.length∧ix xs i=v:=by
 have hs:=firstIx_sr (fun i=>ix xs i=v) xs.length
 unfold findF at h
 split at h
 ·next g=>exact ⟨_,g,hs.1 g⟩
 ·omega
theorem set_len {us:List Int} {n:Nat} (h:SetTo us n us.length):us.length≤n:=by
 refine pigeon n us.length (ix us) (fun i hi=>?_) (fun i j hij hj e=>?_)
 ·have:=(h i hi).1;omega
 ·have h2:=findF_miss (h j hj).2 i (by rw [List.length_take];omega)
  apply h2
  rw [← e];simp [ix,hij]
noncomputable def backF (cols:List Int) (k:Nat):List Int:=(List.range k).map fun (i:Nat)=>findF cols (i:Int)
end Go.Proofs.YtkohkoiegmcghaaDoor
namespace Go.Proofs.YtkohkoiegmcghaaDoor
set_option linter.unusedSimpArgs false
set_option linter.unusedVariables false
open Go.RowKit
def AtomOK (nv:Int) (x:AtomD):Prop:=nameOK x.nm=true∧(1≤x.vs.length∧x.vs.length≤5)∧∀ j,j<x.vs.length→0≤ix x.vs j∧ix x.vs j≤nv - 1
def HeadOK (nv:Int) (n:Nat):Prop:=(1≤nv∧nv≤5)∧1≤n∧n≤4
def CovOK (nv:Int) (xs:List AtomD):Prop:=∀ v:Nat,(v:Int)<nv→∃ i,i<xs.length∧occ (ax xs i).vs v=true
open Classical in
noncomputable def qOK (nv:Int) (xs:List AtomD) (us:List Int):Bool :=
 decide (HeadOK nv xs.length∧SetTo us nv us.length∧(∀ i,i<xs.length→AtomOK nv (ax xs i))∧CovOK nv xs)
section
variable {nv:Int} {xs:List AtomD} {us:List Int}
theorem qOK_yes (h1:HeadOK nv xs.length) (h2:SetTo us nv us.length) (h3:∀ i,i<xs.length→AtomOK nv (ax xs i)) (h4:CovOK nv xs):qOK nv xs us=true:=by
 simp only [qOK,decide_eq_true_eq];exact ⟨h1,h2,h3,h4⟩
theorem qOK_out (h:qOK nv xs us=true):HeadOK nv xs.length∧SetTo us nv us.length∧(∀ i,i<xs.length→AtomOK nv (ax xs i))∧CovOK nv xs:=by
 simpa only [qOK,decide_eq_true_eq] using h
theorem qOK_head (h:¬ HeadOK nv xs.length):qOK nv xs us=false:=by simp only [qOK,decide_eq_false_iff_not];exact fun g=>h g.1
theorem qOK_set (h:¬ SetTo us nv us.length):qOK nv xs us=false:=by simp only [qOK,decide_eq_false_iff_not];exact fun g=>h g.2.1
theorem qOK_atom {i:Nat} (hi:i<xs.length) (h:¬ AtomOK nv (ax xs i)):qOK nv xs us=false:=by simp only [qOK,decide_eq_false_iff_not];exact fun g=>h (g.2.2.1 i hi)
theorem qOK_cov (h:¬ CovOK nv xs):qOK nv xs us=false:=by simp only [qOK,decide_eq_false_iff_not];exact fun g=>h g.2.2.2
theorem qOK_long (h0:0≤nv) (h:¬ (us.length:Int)≤nv):qOK nv xs us=false:=by
 refine qOK_set (fun g=>h ?_)
 obtain ⟨n,rfl⟩:=Int.eq_ofNat_of_zero_le h0
 have:=set_len g;omega
end
end Go.Proofs.YtkohkoiegmcghaaDoor
namespace Go.Proofs.YtkohkoiegmcghaaDoor
set_option linter.unusedSimpArgs false
set_option linter.unusedVariables false
open Go.RowKit
theorem AtomsA.be {fz:Bool} {lo hi B:Nat} {w w':World} {a:Option Addr} {n c:Nat} {xs:List AtomD} (h:AtomsA fz lo hi w a n c xs) (hb:Below B w w') (hh:hi≤B):AtomsA fz lo hi w' a n c xs:=SlA.be atomOK h hb hh
def AtomsTo (g:Nat) (w:World) (n:Nat) (xs:List AtomD) (k:Nat):Prop :=
 ∃ vs,w.ownsRow g 57 2 (.slice (some ⟨g,0,none⟩) n n) n vs∧∀ i,i<k→∃ ra rn rc,vs[i*2]? = some (.string (ax xs i).nm)∧vs[i*2+1]? = some (.slice ra rn rc)∧IntsA true (g+1) w.heap.size w ra rn rc (ax xs i).vs
theorem AtomsTo.put {g:Nat} {w w1:World} {n:Nat} {xs:List AtomD} {k:Nat} (h:AtomsTo g w n xs k) (hk:k<n) (hg:g<w.heap.size) (hb:Below w.heap.size w w1) {ra:Option Addr} {rn rc:Nat}
 (hr:IntsA true w.heap.size w1.heap.size w1 ra rn rc (ax xs k).vs) :
 AtomsTo g ((w1.setCell ⟨g,k*2,none⟩ (.string (ax xs k).nm)).setCell ⟨g,k*2+1,none⟩ (.slice ra rn rc)) n xs (k+1)∧Below g w ((w1.setCell ⟨g,k*2,none⟩ (.string (ax xs k).nm)).setCell ⟨g,k*2+1,none⟩ (.slice ra rn rc)) ∧
  (∃ v0,w1.cell? ⟨g,k*2,none⟩=some v0)∧(∃ v0,w1.cell? ⟨g,k*2+1,none⟩=some v0)∧w1.frozen? ⟨g,k*2,none⟩=false∧w1.frozen? ⟨g,k*2+1,none⟩=false:=by
 obtain ⟨vs,ho,hv⟩:=h
 have hlen:vs.length=n*2:=ho.1
 have ho1:w1.ownsRow g 57 2 (.slice (some ⟨g,0,none⟩) n n) n vs:=ho.kept (row:=none) ⟨hb.os,hb.tape,hb.output,hb.size,fun k hk _=>hb.block k hk⟩ (.inr (by simp [Value.ownBlock]))
 obtain ⟨hs1,hs2⟩:=ho1.stored (k*2) (.string (ax xs k).nm)
 obtain ⟨ht1,ht2⟩:=hs1.stored (k*2+1) (.slice ra rn rc)
 have hsz1:(w1.setCell ⟨g,k*2,none⟩ (.string (ax xs k).nm)).heap.size=w1.heap.size:=szSet _ _ _
 have hsz:((w1.setCell ⟨g,k*2,none⟩ (.string (ax xs k).nm)).setCell ⟨g,k*2+1,none⟩ (.slice ra rn rc)).heap.size=w1.heap.size:=by rw [szSet,szSet]
 have hbs:=hb.size
 have hset:Keeps (g+1) w1.heap.size w1 ((w1.setCell ⟨g,k*2,none⟩ (.string (ax xs k).nm)).setCell ⟨g,k*2+1,none⟩ (.slice ra rn rc)):=Keeps.sc (Keeps.sc (Keeps.refl _ _ _) (.inl (by omega)) _) (.inl (by omega)) _
 refine ⟨⟨_,ht1,fun i hi=>?_⟩,?_,?_,?_,ho1.frozenAt _,ho1.frozenAt _⟩
 ·by_cases e:i=k
  ·subst e
   refine ⟨ra,rn,rc,?_,?_,?_⟩
   ·rw [List.getElem?_set_ne (by omega),List.getElem?_set_self (by omega)]
   ·rw [List.getElem?_set_self (by rw [List.length_set];omega)]
   ·rw [hsz];exact (hr.wide (by omega) (Nat.le_refl _)).keep hset
  ·obtain ⟨ra',rn',rc',g1,g2,g3⟩:=hv i (by omega)
   refine ⟨ra',rn',rc',?_,?_,?_⟩
   ·rw [List.getElem?_set_ne (by omega),List.getElem?_set_ne (by omega)];exact g1
   ·rw [List.getElem?_set_ne (by omega),List.getElem?_set_ne (by omega)];exact g2
   ·rw [hsz];exact ((g3.keep (Keeps.of_below hb (Nat.le_refl _))).wide (Nat.le_refl _) hbs).keep hset
 ·exact Below.setCell (Below.setCell (hb.mono (by omega)) (by dsimp only;omega) _) (by dsimp only;omega) _
 ·have:=ho1.cells (g:=g) rfl (k*2) (vs[k*2]'(by omega)) (by simp)
  rw [Addr.add_lit] at this;exact ⟨_,by simpa using this⟩
 ·have:=ho1.cells (g:=g) rfl (k*2+1) (vs[k*2+1]'(by omega)) (by simp)
  rw [Addr.add_lit] at this;exact ⟨_,by simpa using this⟩
def CellQ (v v':Value):Prop:=v'=v∨(∃ x x',v=.int .i64 x∧v'=.int .i64 x'∧I64 x')∨∃ s s',v=.string s∧v'=.string s'
theorem CellM.q {v v':Value} (h:CellM v v'):CellQ v v':=h.elim .inl (fun h=>.inr (.inl h))
theorem CellQ.trans {a b c:Value} (h:CellQ a b) (k:CellQ b c):CellQ a c:=by
 rcases k with rfl | ⟨x,x',rfl,rfl,hx⟩ | ⟨x,x',rfl,rfl⟩
 ·exact h
 ·rcases h with h | ⟨y,y',rfl,_,_⟩ | ⟨y,y',_,h⟩
  ·exact .inr (.inl ⟨x,x',h.symm,rfl,hx⟩)
  ·exact .inr (.inl ⟨y,x',rfl,rfl,hx⟩)
  ·cases h
 ·rcases h with h | ⟨y,y',_,h,_⟩ | ⟨y,y',rfl,_⟩
  ·exact .inr (.inr ⟨x,x',h.symm,rfl⟩)
  ·cases h
  ·exact .inr (.inr ⟨y,x',rfl,rfl⟩)
structure MarkedQ (lo hi:Nat) (w w':World):Prop where
 os:w'.os=w.os
 tape:w'.tape=w.tape
 output:w'.output=w.output
 size:w.heap.size≤w'.heap.size
 out:∀ k,k<w.heap.size→(k<lo∨hi≤k)→w'.heap[k]? = w.heap[k]?
 cell:∀ p v,w.cell? p=some v→∃ v',w'.cell? p=some v'∧CellQ v v'
 frz:∀ p,w.cell? p ≠ none→w'.frozen? p=w.frozen? p
theorem MarkedQ.of {lo hi:Nat} {w w':World} (h:MarkedG lo hi w w'):MarkedQ lo hi w w' :=
 ⟨h.os,h.tape,h.output,h.size,h.out,fun p v hp=>by obtain ⟨v',g1,g2⟩:=h.cell p v hp;exact ⟨v',g1,g2.q⟩,h.frz⟩
theorem MarkedQ.refl (lo hi:Nat) (w:World):MarkedQ lo hi w w:=⟨rfl,rfl,rfl,Nat.le_refl _,fun _ _ _=>rfl,fun _ v h=>⟨v,h,.inl rfl⟩,fun _ _=>rfl⟩
theorem MarkedQ.trans {lo hi:Nat} {a b c:World} (h:MarkedQ lo hi a b) (k:MarkedQ lo hi b c):MarkedQ lo hi a c:=by
 have hs:=h.size
 refine ⟨k.os.trans h.os,k.tape.trans h.tape,k.output.trans h.output,Nat.le_trans h.size k.size,fun i h1 h2=>(k.out i (by omega) h2).trans (h.out i h1 h2),fun p v hp=>?_,fun p hp=>?_⟩
 ·obtain ⟨v',g1,g2⟩:=h.cell p v hp
  obtain ⟨v'',g3,g4⟩:=k.cell p v' g1
  exact ⟨v'',g3,g2.trans g4⟩
 ·rw [k.frz p,h.frz p hp]
  cases hc:a.cell? p with
  | none=>exact absurd hc hp
  | some v=>obtain ⟨v',g1,_⟩:=h.cell p v hc;rw [g1];exact fun h=>(by cases h)
theorem MarkedQ.keeps {lo hi lo' hi':Nat} {a b:World} (h:MarkedQ lo hi a b) (hd:hi'≤lo∨hi≤lo') (hs:hi'≤a.heap.size):Keeps lo' hi' a b:=fun k h1 h2=>h.out k (by omega) (by omega)
theorem MarkedQ.below {lo hi B:Nat} {a b:World} (h:MarkedQ lo hi a b) (h1:B≤lo) (h2:B≤a.heap.size):Below B a b:=⟨h.os,h.tape,h.output,h.size,fun k hk=>h.out k (by omega) (.inl (by omega))⟩
section
variable {fz:Bool} {lo hi B lo' hi':Nat} {w w':World} {a:Option Addr} {n c:Nat} {xs:List AtomD}
theorem beAtoms (h:AtomsA fz lo hi w a n c xs) (hb:Below B w w') (hh:hi≤B):AtomsA fz lo hi w' a n c xs:=SlA.be atomOK h hb hh
end
end Go.Proofs.YtkohkoiegmcghaaDoor
namespace Go.Proofs.YtkohkoiegmcghaaDoor
set_option linter.unusedSimpArgs false
set_option linter.unusedVariables false
open Go.RowKit
abbrev queryV (nv:Int) (a:Option Addr) (n:Nat) (c:Nat) (ua:Option Addr) (un:Nat) (uc:Nat):Value:=.agg #[.int .i64 nv,.slice a n c,.slice ua un uc]
def QueryA (fz:Bool) (lo hi:Nat) (w:World) (nv:Int) (a:Option Addr) (n:Nat) (c:Nat) (xs:List AtomD) (ua:Option Addr) (un:Nat) (uc:Nat) (us:List Int):Prop:=I64 nv∧AtomsA fz (lo) hi w a n c xs∧IntsA fz (lo) hi w ua un uc us
theorem beQuery {fz:Bool} {lo hi B:Nat} {w w':World} {nv:Int} {a:Option Addr} {n:Nat} {c:Nat} {xs:List AtomD} {ua:Option Addr} {un:Nat} {uc:Nat} {us:List Int} (h:QueryA fz lo hi w nv a n c xs ua un uc us) (hb:Below B w w') (hh:hi≤B):QueryA fz lo hi w' nv a n c xs ua un uc us:=⟨h.1,beAtoms h.2.1 hb hh,beInts h.2.2 hb hh⟩
end Go.Proofs.YtkohkoiegmcghaaDoor
namespace Go.Proofs.YtkohkoiegmcghaaDoor
set_option linter.unusedSimpArgs false
set_option linter.unusedVariables false
open Go.RowKit
theorem infoBool:(Tryd.prog.info? 4).map (fun i=>(i.zero,i.size,i.bytes))=some (some (.bool false),1,1):=by kernel_rfl
def BoolsAt (g:Nat) (w:World) (n:Nat) (us:List Bool):Prop:=w.ownsRow g 4 1 (.slice (some ⟨g,0,none⟩) n n) n (us.map Value.bool)
def bx (us:List Bool) (i:Nat):Bool:=us.getD i false
theorem BoolsAt.len {g:Nat} {w:World} {n:Nat} {us:List Bool} (h:BoolsAt g w n us):us.length=n:=by have:=h.1;simpa using this
theorem BoolsAt.cell {g:Nat} {w:World} {n:Nat} {us:List Bool} (h:BoolsAt g w n us) {q:Nat} (hq:q<n):w.cell? ⟨g,q,none⟩=some (.bool (bx us q))∧w.frozen? ⟨g,q,none⟩=false:=by
 have hl:=h.len
 have:=h.cells (g:=g) rfl q (.bool (bx us q)) (by rw [List.getElem?_map,List.getElem?_eq_getElem (by omega)];simp [bx,hl,hq])
 rw [Addr.add_lit] at this
 exact ⟨by simpa using this,h.frozenAt q⟩
theorem BoolsAt.be {g:Nat} {w w':World} {n:Nat} {us:List Bool} (h:BoolsAt g w n us) (hb:Below w.heap.size w w'):BoolsAt g w' n us :=
 World.ownsRow.kept h (row:=none) ⟨hb.os,hb.tape,hb.output,hb.size,fun k hk _=>hb.block k hk⟩ (.inr (by simp [Value.ownBlock]))
theorem BoolsAt.set {g:Nat} {w:World} {n:Nat} {us:List Bool} (h:BoolsAt g w n us) (q:Nat) (b:Bool):BoolsAt g (w.setCell ⟨g,q,none⟩ (.bool b)) n (us.set q b):=by
 have:=(h.stored q (.bool b)).1
 rw [show (us.map Value.bool).set q (.bool b)=(us.set q b).map Value.bool by rw [List.map_set]] at this
 exact this
theorem BoolsAt.lt {g:Nat} {w:World} {n:Nat} {us:List Bool} (h:BoolsAt g w n us):g<w.heap.size:=(World.ownsRow.lt h g rfl).2
def Seen (xs:List AtomD) (i j:Nat) (v:Nat):Prop:=(∃ i',i'<i∧occ (ax xs i').vs v=true)∨∃ j',j'<j∧ix (ax xs i).vs j'=(v:Int)
def SeenAll (xs:List AtomD) (i j n:Nat) (us:List Bool):Prop:=us.length=n∧∀ v,v<n→(bx us v=true↔Seen xs i j v)
theorem bx_set (us:List Bool) (q v:Nat) (hq:q<us.length):bx (us.set q true) v=true↔v=q∨bx us v=true:=by
 unfold bx
 by_cases e:v=q
 ·subst e;simp [List.getD,hq]
 ·simp only [List.getD,List.getElem?_set_ne (Ne.symm e)]
  exact ⟨fun h=>.inr h,fun h=>h.elim (fun h=>absurd h e) id⟩
theorem SeenAll.step {xs:List AtomD} {i j n q:Nat} {us:List Bool} (h:SeenAll xs i j n us) (hq:q<n) (hx:ix (ax xs i).vs j=(q:Int)):SeenAll xs i (j+1) n (us.set q true):=by
 refine ⟨by simpa using h.1,fun v hv=>?_⟩
 rw [bx_set us q v (by rw [h.1];exact hq),h.2 v hv]
 constructor
 ·rintro (rfl | h1 | ⟨j',h1,h2⟩)
  ·exact .inr ⟨j,by omega,hx⟩
  ·exact .inl h1
  ·exact .inr ⟨j',by omega,h2⟩
 ·rintro (h1 | ⟨j',h1,h2⟩)
  ·exact .inr (.inl h1)
  ·by_cases e:j'=j
   ·subst e;rw [hx] at h2;left;omega
   ·exact .inr (.inr ⟨j',by omega,h2⟩)
theorem SeenAll.next {xs:List AtomD} {i n:Nat} {us:List Bool} (h:SeenAll xs i (ax xs i).vs.length n us):SeenAll xs (i+1) 0 n us:=by
 refine ⟨h.1,fun v hv=>?_⟩
 rw [h.2 v hv]
 constructor
 ·rintro (⟨i',h1,h2⟩ | ⟨j',h1,h2⟩)
  ·exact .inl ⟨i',by omega,h2⟩
  ·refine .inl ⟨i,by omega,?_⟩
   cases ho:occ (ax xs i).vs v with
   | true=>rfl
   | false =>
    have:¬ 0≤findF (ax xs i).vs v:=by simpa [occ] using ho
    exact absurd h2 (findF_miss this j' h1)
 ·rintro (⟨i',h1,h2⟩ | ⟨j',h1,_⟩)
  ·by_cases e:i'=i
   ·subst e
    obtain ⟨j',g1,g2⟩:=findF_hit (by simpa [occ] using h2)
    exact .inr ⟨j',g1,g2⟩
   ·exact .inl ⟨i',by omega,h2⟩
  ·omega
theorem SeenAll.start (xs:List AtomD) (n:Nat):SeenAll xs 0 0 n (List.replicate n false):=by
 refine ⟨by simp,fun v hv=>?_⟩
 constructor
 ·intro h;simp [bx,hv] at h
 ·rintro (⟨i',h1,_⟩ | ⟨j',h1,_⟩) <;> omega
theorem SeenAll.cov {xs:List AtomD} {n:Nat} {us:List Bool} (h:SeenAll xs xs.length 0 n us) (ha:∀ v,v<n→bx us v=true):CovOK n xs:=by
 intro v hv
 have:=(h.2 v (by omega)).1 (ha v (by omega))
 rcases this with ⟨i,h1,h2⟩ | ⟨j',h1,_⟩
 ·exact ⟨i,h1,h2⟩
 ·omega
theorem SeenAll.nocov {xs:List AtomD} {n:Nat} {us:List Bool} (h:SeenAll xs xs.length 0 n us) {v:Nat} (hv:v<n) (ha:bx us v=false):¬ CovOK n xs:=by
 intro hc
 obtain ⟨i,h1,h2⟩:=hc v (by omega)
 have:=(h.2 v hv).2 (.inl ⟨i,h1,h2⟩)
 rw [ha] at this;cases this
theorem intsAtB {fz:Bool} {lo hi:Nat} {w:World} {a:Option Addr} {n c:Nat} {xs:List Int} (h:IntsA fz lo hi w a n c xs) {i:Nat} (hi':i<n) :
 ∃ b off,a=some ⟨b,off,none⟩∧w.cell? ⟨b,off+i,none⟩=some (.int .i64 (ix xs i))∧I64 (ix xs i):=by
 obtain ⟨b,off,rfl,_,_,hc,_⟩:=h.open (by omega)
 exact ⟨b,off,rfl,hc i hi',h.at hi'⟩
theorem setB_iff (us:List Int) (n:Int):setB us n=true↔SetTo us n us.length:=by simp [setB]
set_option maxRecDepth 100000 in
set_option maxHeartbeats 6400000 in
theorem implValidQ {fz:Bool} {lo hi:Nat} (nv:Int) (a:Option Addr) (n c:Nat) (xs:List AtomD) (ua:Option Addr) (un uc:Nat) (us:List Int) (w:World) (hI:QueryA fz lo hi w nv a n c xs ua un uc us) (hh:hi≤w.heap.size) :
 Calls Tryd.prog 28 #[queryV nv a n c ua un uc] w (Leaves w (.bool (qOK nv xs us))):=by
 have hlx:=hI.2.1.len
 have hsx:=hI.2.1.small
 have HL:=hid (And.intro hlx hI.2.2.len);clear hlx
 have HI:=hid hI;clear hI
 by_cases h1:1≤nv∧nv≤5
 ·have hd1:decide (1≤nv∧nv≤5)=true:=by simpa using h1
  obtain ⟨m,rfl⟩:=Int.eq_ofNat_of_zero_le (show 0≤nv by omega)
  have hm1:1≤m:=by omega
  have hm5:m≤5:=by omega
  by_cases h2:(1:Int)≤n∧(n:Int)≤4
  ·have hd2:decide ((1:Int)≤n∧(n:Int)≤4)=true:=by simpa using h2
   obtain ⟨sb,hsb⟩:∃ sb,setB us m=sb:=⟨_,rfl⟩
   have HSB:=hid hsb;clear hsb
   cases sb with
   | false =>
    have HF:=hid (qOK_set (nv:=(m:Int)) (xs:=xs) (us:=us) (fun g=>by have:=(setB_iff us m).2 g;rw [HSB.out] at this;cases this))
    have H12:=hid (And.intro h1 h2);clear h1 h2
    go_enter Tryd.func28,Tryd.ntmps28
    go_wp2_with fail
    refine (implWithin (m:Int) 1 5 _).mono ?_
    rintro e w1 ⟨rfl,m1,rfl⟩
    rw [hd1]
    go_wp2_with fail
    refine (implWithin (n:Int) 1 4 _).mono ?_
    rintro e w2 ⟨rfl,m2,rfl⟩
    rw [hd2]
    go_wp2_with fail
    refine (implIsSet ua un uc us m _ (beInts (B:=w.heap.size) HI.out.2.2 belA hh) (by omega) (by omega)).mono ?_
    rintro e w3 ⟨rfl,m3,rfl⟩
    rw [HSB.out]
    go_wp2_with fail
    go_ret
    exact ⟨by rw [HF.out];rfl,belA⟩
   | true =>
    have HST:=hid ((setB_iff us m).1 HSB.out)
    have HHD:Hid (HeadOK m xs.length):=hid ⟨h1,by have:=HL.out.1;omega⟩
    have H12:=hid (And.intro h1 h2);clear h1 h2
    obtain ⟨i0,hi0,hz0,hz1,hz2⟩:=info_parts infoBool
    go_enter Tryd.func28,Tryd.ntmps28
    go_wp2_with fail
    refine (implWithin (m:Int) 1 5 _).mono ?_
    rintro e w1 ⟨rfl,m1,rfl⟩
    rw [hd1]
    go_wp2_with fail
    refine (implWithin (n:Int) 1 4 _).mono ?_
    rintro e w2 ⟨rfl,m2,rfl⟩
    rw [hd2]
    go_wp2_with fail
    refine (implIsSet ua un uc us m _ (beInts (B:=w.heap.size) HI.out.2.2 belA hh) (by omega) (by omega)).mono ?_
    rintro e w3 ⟨rfl,m3,hw3⟩
    rw [HSB.out]
    have k0:w3.cell? ⟨w.heap.size,0,none⟩=some (.int .i64 m):=by rw [hw3];simp
    have k1:w3.cell? ⟨w.heap.size,1,none⟩=some (.slice a n c):=by rw [hw3];simp
    have hb3:Below w.heap.size w w3:=by rw [hw3];exact belA
    have hz3:w.heap.size<w3.heap.size:=World.block_lt_of_cell? _ _ k0
    have HB3:=hid hb3;clear hb3 hw3
    go_wp2_with (at_make;refine wpList_make_full _ rfl _ _ 82 rfl w3.heap.size 4 i0 (.bool false) 1 Tryd.underlying82 hi0 hz0 hz1 _ _ _ _ m rfl rfl rfl rfl ?b1 ?b2 ?b3 ?_)
    case b1=>rw [hz2];omega
    case b2=>unfold maxLen;omega
    case b3=>exact Nat.le_refl _
    intro w4 hown hgrow
    have hb4:Below w3.heap.size w3 w4:=(Below.refl _ _).grown hgrow (Nat.le_refl _) (fun k h=>by cases h)
    have hU:BoolsAt w3.heap.size w4 m (List.replicate m false):=by
     have:=hown
     rw [toList_madeCells_one] at this
     unfold BoolsAt
     rw [List.map_replicate];exact this
    have hz4:=hU.lt
    replace k0:w4.cell? ⟨w.heap.size,0,none⟩=some (.int .i64 m):=by rw [(bcell hb4).1 _ _ hz3];exact k0
    replace k1:w4.cell? ⟨w.heap.size,1,none⟩=some (.slice a n c):=by rw [(bcell hb4).1 _ _ hz3];exact k1
    have HA:=hid (beAtoms HI.out.2.1 (HB3.out.trans (hb4.mono (by omega))) hh)
    have HU:=hid hU
    have HB4:=hid (HB3.out.trans (hb4.mono (show w.heap.size≤w3.heap.size by omega)))
    clear hb4 hown hgrow hU
    obtain ⟨g,hg⟩:∃ g,g=w3.heap.size:=⟨_,rfl⟩
    have HUg:Hid (BoolsAt g w4 m (List.replicate m false)):=hid (by rw [hg];exact HU.out)
    have hgw:w.heap.size<g:=by omega
    have hg4:g<w4.heap.size:=by omega
    rw [← hg]
    have HG:=hid hg;clear hg HU
    go_wp2_with fail
    go_loopw [35] (fun s wr=>∃ (i:Nat) (bs:List Bool),s=.int .i64 i∧i≤n∧Hid (BoolsAt g wr m bs)∧Hid (SeenAll xs i 0 m bs)∧Hid (∀ j,j<i→AtomOK m (ax xs j))∧Hid (Below g w4 wr)) (fun s _=>n - (intOf s).toNat)
    case atStart=>exact ⟨0,_,rfl,by omega,HUg,hid (SeenAll.start xs m),hid (fun j hj=>by omega),hid (Below.refl _ _)⟩
    case round =>
     obtain ⟨i,bs,rfl,hi,HBS,HSN,HAO,HBW⟩:=hrel
     have hzr:=HBW.out.size
     have HBWW:=hid (HB4.out.trans (HBW.out.mono (show w.heap.size≤g by omega)))
     by_cases hlt:i<n
     ·have hAr:=beAtoms HI.out.2.1 HBWW.out hh
      obtain ⟨b,off,rfl⟩:=atomsSome hAr (by omega)
      obtain ⟨_,_,hsz,ra,rn,rc,d0,d1,hr,_⟩:=atomsAt hAr hlt
      have hrl:=hr.len
      have hrs:=hr.small
      have HAR:=hid (And.intro hAr hr);clear hAr hr
      have HRL:=hid hrl;clear hrl
      obtain ⟨nb,hnb⟩:∃ nb,nameOK (ax xs i).nm=nb:=⟨_,rfl⟩
      have HNB:=hid hnb;clear hnb
      obtain ⟨nm,hnm⟩:∃ nm,nm=(ax xs i).nm:=⟨_,rfl⟩
      rw [← hnm] at d0 hsz
      have HNM:=hid hnm;clear hnm
      have HFA:=hid (fun (hn:¬ AtomOK m (ax xs i))=>qOK_atom (us:=us) (by rw [HL.out.1];exact hlt) hn)
      have HNC:=hid (fun w'=>by have:=implName nm w' hsz;rwa [show nameOK nm=nb by rw [HNM.out];exact HNB.out] at this)
      cases nb with
      | false =>
       have HF:=hid (HFA.out (fun g=>by have:=g.1;rw [HNB.out] at this;cases this))
       go_wp2_with fail
       refine (HNC.out _).mono ?_
       rintro e w5 ⟨rfl,hb5⟩
       have HB5:=hid (Below.trans (B:=w.heap.size) (Below.trans HBWW.out belA) (hb5.mono leA));clear hb5
       go_wp2_with fail
       go_ret
       exact ⟨by rw [HF.out];rfl,HB5.out⟩
      | true =>
       by_cases h5:(1:Int)≤rn∧(rn:Int)≤5
       ·have hd5:decide ((1:Int)≤rn∧(rn:Int)≤5)=true:=by simpa using h5
        have hr5:rn≤5:=by omega
        have H5:=hid h5;clear h5
        go_wp2_with fail
        refine (HNC.out _).mono ?_
        rintro e w5 ⟨rfl,hb5⟩
        have c50:w5.cell? ⟨wr.heap.size,0,none⟩=some (.string nm):=(by rw [(bcell hb5).1 _ _ (by first | omega | (simp;done) | (simp;omega))];first | with_reducible assumption | (go_simp;done) | assumption | (simp [World.cell?];done))
        have c51:w5.cell? ⟨wr.heap.size,1,none⟩=some (.slice ra rn rc):=(by rw [(bcell hb5).1 _ _ (by first | omega | (simp;done) | (simp;omega))];first | with_reducible assumption | (go_simp;done) | assumption | (simp [World.cell?];done))
        have hz5:wr.heap.size<w5.heap.size:=World.block_lt_of_cell? _ _ c50
        have hb6:Below wr.heap.size wr w5:=Below.trans belA (hb5.mono leA)
        have HB6:=hid hb6
        have HBS5:=hid (HBS.out.be hb6)
        have HBW5:=hid (HBW.out.trans (hb6.mono (by omega)))
        clear hb5 hb6
        go_wp2_with fail
        refine (implWithin (rn:Int) 1 5 _).mono ?_
        rintro e w6 ⟨rfl,m6,hw6⟩
        rw [hd5]
        replace c50:w6.cell? ⟨wr.heap.size,0,none⟩=some (.string nm):=by rw [hw6];exact c50
        replace c51:w6.cell? ⟨wr.heap.size,1,none⟩=some (.slice ra rn rc):=by rw [hw6];exact c51
        have HBS6:Hid (BoolsAt g w6 m bs):=hid (by rw [hw6];exact HBS5.out)
        have HBW6:Hid (Below g w4 w6):=hid (by rw [hw6];exact below_drewN HBW5.out _)
        clear hw6
        go_wp2_with fail
        obtain ⟨wo,hwo⟩:∃ wo:World,wo=wr:=⟨_,rfl⟩
        rw [← hwo] at *
        clear hwo
        go_loopw [53] (fun s wr=>∃ (j:Nat) (bs:List Bool),s=.int .i64 j∧j≤rn∧Hid (BoolsAt g wr m bs)∧Hid (SeenAll xs i j m bs)∧Hid (∀ q,q<j→0≤ix (ax xs i).vs q∧ix (ax xs i).vs q≤(m:Int) - 1)∧Hid (Below g w4 wr)) (fun s _=>rn - (intOf s).toNat)
        case atStart=>exact ⟨0,bs,rfl,by omega,HBS6,HSN,hid (fun q hq=>by omega),HBW6⟩
        case round =>
         obtain ⟨j,cs,rfl,hj,HCS,HSC,HVV,HCW⟩:=hrel
         have hzc:=HCW.out.size
         have HCWW:=hid (HB4.out.trans (HCW.out.mono (show w.heap.size≤g by omega)))
         have hAc:=beAtoms HI.out.2.1 HCWW.out hh
         obtain ⟨_,_,_,ra',rn',rc',_,d1',hr',_⟩:=atomsAt hAc hlt
         have hrr:wr.cell? ⟨b,off+i*2+1,none⟩=some (.slice ra rn rc):=by
          have hbg:b<g:=by
           obtain ⟨b',o',e,_,h2,_⟩:=HI.out.2.1.open (show 0<n by omega)
           simp only [Option.some.injEq,Addr.mk.injEq,and_true] at e
           omega
          rw [HCW.out.cell (p:=⟨b,off+i*2+1,none⟩) hbg,← HBW.out.cell (p:=⟨b,off+i*2+1,none⟩) hbg]
          exact d1
         rw [hrr] at d1'
         simp only [Option.some.injEq,Value.slice.injEq] at d1'
         obtain ⟨rfl,rfl,rfl⟩:=d1'
         clear hrr
         have HRC:=hid (And.intro hAc hr');clear hAc hr'
         by_cases hltj:j<rn
         ·obtain ⟨vb,vo,rfl,y0,_⟩:=intsAtB HRC.out.2 hltj
          have HX0:=hid (show ix (ax xs i).vs j=ix (ax xs i).vs j from rfl)
          obtain ⟨x,hx⟩:∃ x,ix (ax xs i).vs j=x:=⟨_,rfl⟩
          rw [hx] at y0
          have hw1:IntKind.i64.wrap ((m:Int) - 1)=(m:Int) - 1:=IntWalk.i64_in _ (by omega)
          by_cases h6:0≤x∧x≤(m:Int) - 1
          ·have hd6:decide (0≤x∧x≤(m:Int) - 1)=true:=by simpa using h6
           obtain ⟨q,rfl⟩:=Int.eq_ofNat_of_zero_le h6.1
           have hqm:q<m:=by omega
           have HSC2:=hid (HSC.out.step hqm hx)
           have HVV2:Hid (∀ q,q<j+1→0≤ix (ax xs i).vs q∧ix (ax xs i).vs q≤(m:Int) - 1):=hid (fun q' hq'=>by
            by_cases e:q'=j
            ·subst e;rw [hx];exact h6
            ·exact HVV.out q' (by omega))
           obtain ⟨u0,u1⟩:=HCS.out.cell hqm
           have HCS2:=hid (HCS.out.set q true)
           have HCW2:Hid (Below g w4 (wr.setCell ⟨g,q,none⟩ (.bool true))):=hid (Below.setCell HCW.out (Nat.le_refl _) _)
           have hqi:(q:Int)<(m:Int):=by omega
           have H6:=hid (And.intro h6 hx);clear h6 hx
           go_wp2_with fail
           refine (implWithin (q:Int) 0 ((m:Int) - 1) _).mono ?_
           rintro e w7 ⟨rfl,m7,rfl⟩
           rw [hd6]
           go_wp2_with fail
           go_roundw
           case rel=>exact ⟨j+1,_,by go_num,by omega,hid HCS2.out,HSC2,HVV2,hid (below_drewN HCW2.out _)⟩
           case measure=>simp [intOf];omega
          ·have hd6:decide (0≤x∧x≤(m:Int) - 1)=false:=by simpa using h6
           have HF:=hid (HFA.out (fun g=>h6 (by have:=g.2.2 j (by rw [HRL.out];exact hltj);rwa [hx] at this)))
           have H6:=hid (And.intro h6 hx);clear h6 hx
           go_wp2_with fail
           refine (implWithin x 0 ((m:Int) - 1) _).mono ?_
           rintro e w7 ⟨rfl,m7,rfl⟩
           rw [hd6]
           go_wp2_with fail
           go_ret
           exact ⟨by rw [HF.out];rfl,below_drewN HCWW.out _⟩
         ·have hjl:j=(ax xs i).vs.length:=by have:=HRL.out;omega
          have HSN2:Hid (SeenAll xs (i+1) 0 m cs):=hid (SeenAll.next (by have:=HSC.out;rwa [hjl] at this))
          have HAO2:Hid (∀ q,q<i+1→AtomOK m (ax xs q)):=hid (fun q hq=>by
           by_cases e:q=i
           ·subst e;exact ⟨HNB.out,by have:=HRL.out;have:=H5.out;omega,fun t ht=>HVV.out t (by omega)⟩
           ·exact HAO.out q (by omega))
          clear hjl
          go_wp2_with fail
          go_roundw
          case rel=>exact ⟨i+1,cs,by go_num,by omega,HCS,HSN2,HAO2,HCW⟩
          case measure=>simp [intOf];omega
       ·have hd5:decide ((1:Int)≤rn∧(rn:Int)≤5)=false:=by simpa using h5
        have HF:=hid (HFA.out (fun g=>h5 (by have g2:=g.2.1;have:=HRL.out;omega)))
        have H5:=hid h5;clear h5
        go_wp2_with fail
        refine (HNC.out _).mono ?_
        rintro e w5 ⟨rfl,hb5⟩
        have c50:w5.cell? ⟨wr.heap.size,0,none⟩=some (.string nm):=(by rw [(bcell hb5).1 _ _ (by first | omega | (simp;done) | (simp;omega))];first | with_reducible assumption | (go_simp;done) | assumption | (simp [World.cell?];done))
        have c51:w5.cell? ⟨wr.heap.size,1,none⟩=some (.slice ra rn rc):=(by rw [(bcell hb5).1 _ _ (by first | omega | (simp;done) | (simp;omega))];first | with_reducible assumption | (go_simp;done) | assumption | (simp [World.cell?];done))
        have HB5:=hid (Below.trans (B:=w.heap.size) (Below.trans HBWW.out belA) (hb5.mono leA));clear hb5
        go_wp2_with fail
        refine (implWithin (rn:Int) 1 5 _).mono ?_
        rintro e w6 ⟨rfl,m6,rfl⟩
        rw [hd5]
        go_wp2_with fail
        go_ret
        exact ⟨by rw [HF.out];rfl,below_drewN HB5.out _⟩
     ·have hin:i=xs.length:=by have:=HL.out.1;omega
      have HSE:Hid (SeenAll xs xs.length 0 m bs):=hid (by have:=HSN.out;rwa [hin] at this)
      have HAE:Hid (∀ j,j<xs.length→AtomOK m (ax xs j)):=hid (by have:=HAO.out;rwa [hin] at this)
      clear hin
      go_wp2_with fail
      go_loopw [69] (fun s wq=>∃ k:Nat,s=.int .i64 k∧k≤m∧Hid (∀ v,v<k→bx bs v=true)∧wq=wr) (fun s _=>m - (intOf s).toNat)
      case atStart=>exact ⟨0,rfl,by omega,hid (fun v hv=>by omega),rfl⟩
      case round =>
       obtain ⟨k,rfl,hk,HT,rfl⟩:=hrel
       by_cases hlt2:k<m
       ·obtain ⟨y0,_⟩:=HBS.out.cell hlt2
        obtain ⟨ub,hub⟩:∃ ub,bx bs k=ub:=⟨_,rfl⟩
        rw [hub] at y0
        cases ub with
        | true =>
         have HT2:Hid (∀ v,v<k+1→bx bs v=true):=hid (fun v hv=>by
          by_cases e:v=k
          ·subst e;exact hub
          ·exact HT.out v (by omega))
         clear hub
         go_wp2_with fail
         go_roundw
         case rel=>exact ⟨k+1,by go_num,by omega,HT2,by first | rfl | trivial⟩
         case measure=>simp [intOf];omega
        | false =>
         have HF:=hid (qOK_cov (us:=us) (HSE.out.nocov hlt2 hub))
         clear hub
         go_wp2_with fail
         go_ret
         exact ⟨by rw [HF.out];rfl,HBWW.out⟩
       ·have HF:=hid (qOK_yes HHD.out HST.out HAE.out (HSE.out.cov (fun v hv=>HT.out v (by omega))))
        go_wp2_with fail
        go_ret
        exact ⟨by rw [HF.out];rfl,HBWW.out⟩
  ·have hd2:decide ((1:Int)≤n∧(n:Int)≤4)=false:=by simpa using h2
   have HF:=hid (qOK_head (nv:=(m:Int)) (xs:=xs) (us:=us) (fun g=>h2 (by have:=g.2;have:=HL.out.1;omega)))
   have H12:=hid (And.intro h1 h2);clear h1 h2
   go_enter Tryd.func28,Tryd.ntmps28
   go_wp2_with fail
   refine (implWithin (m:Int) 1 5 _).mono ?_
   rintro e w1 ⟨rfl,m1,rfl⟩
   rw [hd1]
   go_wp2_with fail
   refine (implWithin (n:Int) 1 4 _).mono ?_
   rintro e w2 ⟨rfl,m2,rfl⟩
   rw [hd2]
   go_wp2_with fail
   go_ret
   exact ⟨by rw [HF.out];rfl,belA⟩
 ·have hd1:decide (1≤nv∧nv≤5)=false:=by simpa using h1
  have HF:=hid (qOK_head (xs:=xs) (us:=us) (fun g=>h1 g.1))
  go_enter Tryd.func28,Tryd.ntmps28
  go_wp2_with fail
  refine (implWithin nv 1 5 _).mono ?_
  rintro e w1 ⟨rfl,m1,rfl⟩
  rw [hd1]
  go_wp2_with fail
  go_ret
  exact ⟨by rw [HF.out];rfl,belA⟩
end Go.Proofs.YtkohkoiegmcghaaDoor
namespace Go.Proofs.YtkohkoiegmcghaaDoor
set_option linter.unusedSimpArgs false
set_option linter.unusedVariables false
open Go.RowKit
set_option maxRecDepth 100000 in
set_option maxHeartbeats 6400000 in
theorem specValidQ {fz:Bool} {lo hi:Nat} (nv:Int) (a:Option Addr) (n c:Nat) (xs:List AtomD) (ua:Option Addr) (un uc:Nat) (us:List Int) (w:World) (hI:QueryA fz lo hi w nv a n c xs ua un uc us) (hh:hi≤w.heap.size) :
 Calls Tryd.prog 17 #[queryV nv a n c ua un uc] w (Leaves w (.bool (qOK nv xs us))):=by
 have hlx:=hI.2.1.len
 have hsx:=hI.2.1.small
 have hsu:=hI.2.2.small
 have hlu:=hI.2.2.len
 have huc:=hI.2.2.2.1
 have hum:=hI.2.2.2.2.1
 have HL:=hid (And.intro hlx hlu);clear hlx hlu
 obtain ⟨W,hW⟩:∃ W,W=w.alloc (.cells #[.int .i64 nv,.slice a n c,.slice ua un uc] 27):=⟨_,rfl⟩
 have hBW:Below w.heap.size w W:=by rw [hW];exact belA
 have hz:w.heap.size<W.heap.size:=by rw [hW];simp
 have c0:W.cell? ⟨w.heap.size,0,none⟩=some (.int .i64 nv):=by rw [hW];simp
 have c1:W.cell? ⟨w.heap.size,1,none⟩=some (.slice a n c):=by rw [hW];simp
 have c2:W.cell? ⟨w.heap.size,2,none⟩=some (.slice ua un uc):=by rw [hW];simp
 have HI:=hid (beQuery hI hBW hh)
 have HW:=hid (And.intro hW hBW);clear hW hBW hI
 by_cases h1:1≤nv∧nv≤5
 ·have hd1:decide (1≤nv∧nv≤5)=true:=by simpa using h1
  obtain ⟨m,rfl⟩:=Int.eq_ofNat_of_zero_le (show 0≤nv by omega)
  have hm1:1≤m:=by omega
  have hm5:m≤5:=by omega
  by_cases h2:(1:Int)≤n∧(n:Int)≤4
  ·have hd2:decide ((1:Int)≤n∧(n:Int)≤4)=true:=by simpa using h2
   by_cases h3:un≤m
   ·have HHD:Hid (HeadOK m xs.length):=hid ⟨h1,by have:=HL.out.1;omega⟩
    have hn4:n≤4:=by omega
    have H12:=hid (And.intro h1 h2);clear h1 h2
    have hw1:IntKind.i64.wrap ((m:Int) - 1)=(m:Int) - 1:=IntWalk.i64_in _ (by omega)
    go_enter Tryd.func17,Tryd.ntmps17
    go_upto_region 1 with fail
    rw [← HW.out.1]
    go_wp2_with fail
    refine (specIn (m:Int) 1 5 _).mono ?_
    rintro e w1 ⟨rfl,m1,rfl⟩
    rw [hd1]
    go_wp2_with fail
    refine (specIn (n:Int) 1 4 _).mono ?_
    rintro e w2 ⟨rfl,m2,rfl⟩
    rw [hd2]
    go_wp2_with fail
    simp only [show ∀ (inst:Decidable (m<un)),@decide (m<un) inst=false from fun inst=>decide_eq_false (by omega)]
    go_loopw [3] (fun s wr=>∃ i:Nat,s=.int .i64 i∧i≤n∧Hid (∀ j,j<i→AtomOK m (ax xs j))∧Hid (Below W.heap.size W wr)) (fun s _=>n - (intOf s).toNat)
    case atStart=>exact ⟨0,rfl,by omega,hid (fun j hj=>by omega),hid belA⟩
    case round =>
     obtain ⟨i,rfl,hin,HAO,HB⟩:=hrel
     have hzr:=HB.out.size
     have d0:wr.cell? ⟨w.heap.size,0,none⟩=some (.int .i64 m):=by rw [(bcell HB.out).1 _ _ hz];exact c0
     have d1:wr.cell? ⟨w.heap.size,1,none⟩=some (.slice a n c):=by rw [(bcell HB.out).1 _ _ hz];exact c1
     by_cases hlt:i<n
     ·have hAr:=beAtoms HI.out.2.1 HB.out (by omega)
      obtain ⟨b,off,rfl⟩:=atomsSome hAr (by omega)
      obtain ⟨_,_,hsz,ra,rn,rc,y0,y1,hr,_⟩:=atomsAt hAr hlt
      have hrl:=hr.len
      have hrs:=hr.small
      have HR:=hid (And.intro hAr hr);clear hAr hr
      have HRL:=hid hrl;clear hrl
      obtain ⟨nb,hnb⟩:∃ nb,nameOK (ax xs i).nm=nb:=⟨_,rfl⟩
      have HNB:=hid hnb;clear hnb
      obtain ⟨nm,hnm⟩:∃ nm,nm=(ax xs i).nm:=⟨_,rfl⟩
      rw [← hnm] at y0 hsz
      have HNM:=hid hnm;clear hnm
      have HFA:=hid (fun (hn:¬ AtomOK m (ax xs i))=>qOK_atom (us:=us) (by rw [HL.out.1];exact hlt) hn)
      have HNC:=hid (fun w'=>by have:=specName nm w' hsz;rwa [show nameOK nm=nb by rw [HNM.out];exact HNB.out] at this)
      cases nb with
      | false =>
       have HF:=hid (HFA.out (fun g=>by have:=g.1;rw [HNB.out] at this;cases this))
       go_wp2_with fail
       refine (HNC.out _).mono ?_
       rintro e w5 ⟨rfl,hb5⟩
       have HB5:=hid (Below.calm HB.out hb5);clear hb5
       go_wp2_with fail
       go_ret
       exact ⟨by rw [HF.out];rfl,HW.out.2.trans (HB5.out.mono (by omega))⟩
      | true =>
       go_wp2_with fail
       refine (HNC.out _).mono ?_
       rintro e w5 ⟨rfl,hb5⟩
       have hzz:w.heap.size<wr.heap.size:=by omega
       have hbw:b<wr.heap.size:=World.block_lt_of_cell? _ _ y0
       replace d0:w5.cell? ⟨w.heap.size,0,none⟩=some (.int .i64 m):=by rw [(bcell hb5).1 _ _ hzz];exact d0
       replace d1:w5.cell? ⟨w.heap.size,1,none⟩=some (.slice (some ⟨b,off,none⟩) n c):=by rw [(bcell hb5).1 _ _ hzz];exact d1
       replace y1:w5.cell? ⟨b,off+i*2+1,none⟩=some (.slice ra rn rc):=by rw [(bcell hb5).1 _ _ hbw];exact y1
       have HB5:=hid (Below.calm HB.out hb5)
       have HR5:=hid (beInts HR.out.2 hb5 (by omega))
       clear hb5 y0
       by_cases h5:(1:Int)≤rn∧(rn:Int)≤5
       ·have hd5:decide ((1:Int)≤rn∧(rn:Int)≤5)=true:=by simpa using h5
        have H5:=hid h5;clear h5
        go_wp2_with fail
        refine (specIn (rn:Int) 1 5 _).mono ?_
        rintro e w6 ⟨rfl,m6,rfl⟩
        rw [hd5]
        go_wp2_with fail
        go_loopw [4] (fun s wr=>∃ j:Nat,s=.int .i64 j∧j≤rn∧Hid (∀ q,q<j→0≤ix (ax xs i).vs q∧ix (ax xs i).vs q≤(m:Int) - 1)∧Hid (∃ q,wr=w5.drewN q)) (fun s _=>rn - (intOf s).toNat)
        case atStart=>exact ⟨0,rfl,by omega,hid (fun q hq=>by omega),hid ⟨_,rfl⟩⟩
        case round =>
         obtain ⟨j,rfl,hj,HVV,HD⟩:=hrel
         have d0':wr.cell? ⟨w.heap.size,0,none⟩=some (.int .i64 m):=by obtain ⟨q,rfl⟩:=HD.out;exact d0
         have d1':wr.cell? ⟨w.heap.size,1,none⟩=some (.slice (some ⟨b,off,none⟩) n c):=by obtain ⟨q,rfl⟩:=HD.out;exact d1
         have y1':wr.cell? ⟨b,off+i*2+1,none⟩=some (.slice ra rn rc):=by obtain ⟨q,rfl⟩:=HD.out;exact y1
         have hbx:∀ q,Below W.heap.size W (wr.drewN q):=by obtain ⟨q,rfl⟩:=HD.out;exact fun q'=>below_drewN (below_drewN HB5.out _) _
         have HBX:=hid hbx;clear hbx
         by_cases hltj:j<rn
         ·obtain ⟨vb,vo,rfl,x0,_⟩:=intsAtB (kpInts HR5.out (keeps_dr _ _ HD.out)) hltj
          obtain ⟨x,hx⟩:∃ x,ix (ax xs i).vs j=x:=⟨_,rfl⟩
          rw [hx] at x0
          have hcI:=hid (fun w'=>specIn x 0 ((m:Int) - 1) w')
          by_cases h6:0≤x∧x≤(m:Int) - 1
          ·have HC:Hid (∀ w',Calls Tryd.prog 41 #[.int .i64 x,.int .i64 0,.int .i64 ((m:Int) - 1)] w' (Gives w' (.bool true))):=hid (fun w'=>by have:=hcI.out w';rwa [show decide (0≤x∧x≤(m:Int) - 1)=true by simpa using h6] at this)
           have HVV2:Hid (∀ q,q<j+1→0≤ix (ax xs i).vs q∧ix (ax xs i).vs q≤(m:Int) - 1):=hid (fun q' hq'=>by
            by_cases e:q'=j
            ·subst e;rw [hx];exact h6
            ·exact HVV.out q' (by omega))
           have H6:=hid (And.intro h6 hx);clear h6 hx
           go_wp2_with fail
           go_quiet ((go_at_call 41;exact (Calls.quiet_of (HC.out _))))
           go_wp2_with fail
           go_roundw
           case rel=>exact ⟨j+1,by go_num,by omega,HVV2,hid (by first | exact HD.out | exact dr_more HD.out _ | (rw [dd];exact dr_more HD.out _) | (rw [dd,dd];exact dr_more HD.out _) | exact ⟨_,rfl⟩ | exact ⟨_,dd⟩)⟩
           case measure=>simp [intOf];omega
          ·have HC:Hid (∀ w',Calls Tryd.prog 41 #[.int .i64 x,.int .i64 0,.int .i64 ((m:Int) - 1)] w' (Gives w' (.bool false))):=hid (fun w'=>by have:=hcI.out w';rwa [show decide (0≤x∧x≤(m:Int) - 1)=false by simpa using h6] at this)
           have HF:=hid (HFA.out (fun g=>h6 (by have:=g.2.2 j (by rw [HRL.out];exact hltj);rwa [hx] at this)))
           have H6:=hid (And.intro h6 hx);clear h6 hx
           go_wp2_with fail
           go_quiet ((go_at_call 41;exact (Calls.quiet_of (HC.out _))))
           go_wp2_with fail
           go_ret
           exact ⟨by rw [HF.out];rfl,HW.out.2.trans ((HBX.out _).mono (by omega))⟩
         ·have HAO2:Hid (∀ q,q<i+1→AtomOK m (ax xs q)):=hid (fun q hq=>by
           by_cases e:q=i
           ·subst e;exact ⟨HNB.out,by have:=HRL.out;have:=H5.out;omega,fun t ht=>HVV.out t (by have:=HRL.out;omega)⟩
           ·exact HAO.out q (by omega))
          go_wp2_with fail
          go_roundw
          case rel=>exact ⟨i+1,by go_num,by omega,HAO2,hid (HBX.out 0)⟩
          case measure=>simp [intOf];omega
       ·have hd5:decide ((1:Int)≤rn∧(rn:Int)≤5)=false:=by simpa using h5
        have HF:=hid (HFA.out (fun g=>h5 (by have g2:=g.2.1;have:=HRL.out;omega)))
        have H5:=hid h5;clear h5
        go_wp2_with fail
        refine (specIn (rn:Int) 1 5 _).mono ?_
        rintro e w6 ⟨rfl,m6,rfl⟩
        rw [hd5]
        go_wp2_with fail
        go_ret
        exact ⟨by rw [HF.out];rfl,HW.out.2.trans ((below_drewN HB5.out _).mono (by omega))⟩
     ·have HAE:Hid (∀ j,j<xs.length→AtomOK m (ax xs j)):=hid (fun j hj=>HAO.out j (by have:=HL.out.1;omega))
      have HBA:=hid (HW.out.2.trans (HB.out.mono (show w.heap.size≤W.heap.size by omega)))
      have HIA:=hid (beQuery HI.out HB.out (by omega))
      obtain ⟨wz,hwz⟩:∃ wz,wz=wr.heap.size:=⟨_,rfl⟩
      have hzz:w.heap.size<wz:=by omega
      go_wp2_with fail
      go_loopw [5] (fun s w2=>∃ v:Nat,s=.int .i64 v∧v≤m∧Hid (∀ u,u<v→∃ i,i<xs.length∧occ (ax xs i).vs u=true)∧Hid (Below W.heap.size W w2)) (fun s _=>m - (intOf s).toNat)
      case atStart=>exact ⟨0,rfl,by omega,hid (fun j hj=>by omega),HB⟩
      case round =>
       obtain ⟨v,rfl,hv,HCV,HB2⟩:=hrel
       have hz2:=HB2.out.size
       have e0:wr.cell? ⟨w.heap.size,0,none⟩=some (.int .i64 m):=by rw [(bcell HB2.out).1 _ _ hz];exact c0
       have e2:wr.cell? ⟨w.heap.size,2,none⟩=some (.slice ua un uc):=by rw [(bcell HB2.out).1 _ _ hz];exact c2
       by_cases hlt2:v<m
       ·go_wp2_with fail
        go_loopw [6,7] (fun s6 s7 w3=>∃ (b:Bool) (k:Nat),s6=.bool b∧s7=.int .i64 k∧k≤n∧Hid (b=true↔∃ i',i'<k∧occ (ax xs i').vs v=true)∧Hid (Below W.heap.size W w3)) (fun _ s _=>n - (intOf s).toNat)
        case atStart=>exact ⟨false,0,rfl,rfl,by omega,hid (by simp),HB2⟩
        case round =>
         obtain ⟨b,k,rfl,rfl,hk,HBK,HB3⟩:=hrel
         have hz3:=HB3.out.size
         have f0:wr.cell? ⟨w.heap.size,0,none⟩=some (.int .i64 m):=by rw [(bcell HB3.out).1 _ _ hz];exact c0
         have f1:wr.cell? ⟨w.heap.size,1,none⟩=some (.slice a n c):=by rw [(bcell HB3.out).1 _ _ hz];exact c1
         by_cases hlt3:k<n
         ·cases b with
          | true =>
           have HBK2:Hid (true=true↔∃ i',i'<k+1∧occ (ax xs i').vs v=true):=hid ⟨fun _=>by obtain ⟨i',h1,h2⟩:=HBK.out.1 rfl;exact ⟨i',by omega,h2⟩,fun _=>rfl⟩
           go_wp2_with fail
           go_roundw
           case rel=>exact ⟨true,k+1,rfl,by go_num,by omega,HBK2,HB3⟩
           case measure=>simp [intOf];omega
          | false =>
           have hAr:=beAtoms HI.out.2.1 HB3.out (by omega)
           obtain ⟨b,off,rfl⟩:=atomsSome hAr (by omega)
           obtain ⟨_,_,hsz,ra,rn,rc,y0,y1,hr,_⟩:=atomsAt hAr hlt3
           have HR:=hid hr;clear hr hAr
           obtain ⟨nm,hnm⟩:∃ nm,nm=(ax xs k).nm:=⟨_,rfl⟩
           rw [← hnm] at y0 hsz
           have HNM:=hid hnm;clear hnm
           obtain ⟨ob,hob⟩:∃ ob,occ (ax xs k).vs v=ob:=⟨_,rfl⟩
           have HBK2:Hid (ob=true↔∃ i',i'<k+1∧occ (ax xs i').vs v=true):=hid ⟨fun h=>⟨k,by omega,by rw [hob];exact h⟩,fun ⟨i',h1,h2⟩=>by
            by_cases e:i'=k
            ·subst e;rw [← hob];exact h2
            ·exact absurd (HBK.out.2 ⟨i',by omega,h2⟩) (by simp)⟩
           have HOB:=hid hob;clear hob
           go_wp2_with fail
           refine (specHasVar nm ra rn rc (ax xs k).vs (v:Int) _ HR.out (by omega)).mono ?_
           rintro e w5 ⟨rfl,hb5⟩
           rw [HOB.out]
           have HB5:=hid (Below.calm HB3.out hb5);clear hb5
           go_wp2_with fail
           go_roundw
           case rel=>exact ⟨ob,k+1,rfl,by go_num,by omega,HBK2,HB5⟩
           case measure=>simp [intOf];omega
         ·cases b with
          | true =>
           have HCV2:Hid (∀ u,u<v+1→∃ i,i<xs.length∧occ (ax xs i).vs u=true):=hid (fun u hu=>by
            by_cases e:u=v
            ·subst e;obtain ⟨i',h1,h2⟩:=HBK.out.1 rfl;exact ⟨i',by have:=HL.out.1;omega,h2⟩
            ·exact HCV.out u (by omega))
           go_wp2_with fail
           go_roundw
           case rel=>exact ⟨v+1,by go_num,by omega,HCV2,HB3⟩
           case measure=>simp [intOf];omega
          | false =>
           have HF:=hid (qOK_cov (us:=us) (show ¬ CovOK (m:Int) xs from fun g=>by obtain ⟨i,hi,ho⟩:=g v (by omega);exact absurd (HBK.out.2 ⟨i,by have:=HL.out.1;omega,ho⟩) (by simp)))
           go_wp2_with fail
           go_ret
           exact ⟨by rw [HF.out];rfl,HW.out.2.trans (HB3.out.mono (by omega))⟩
       ·have HCO:Hid (CovOK m xs):=hid (fun u hu=>HCV.out u (by omega))
        have HO:=hid (beInts HI.out.2.2 HB2.out (by omega))
        go_wp2_with fail
        go_loopw [8] (fun s w4=>∃ j:Nat,s=.int .i64 j∧j≤un∧Hid (SetTo us m j)∧Hid (∃ q,w4=wr.drewN q)) (fun s _=>un - (intOf s).toNat)
        case atStart=>exact ⟨0,rfl,by omega,hid (fun q hq=>by omega),hid ⟨0,rfl⟩⟩
        case round =>
         obtain ⟨j,rfl,hj,HST,HD⟩:=hrel
         have g0:wr.cell? ⟨w.heap.size,0,none⟩=some (.int .i64 m):=by obtain ⟨q,rfl⟩:=HD.out;exact e0
         have g2:wr.cell? ⟨w.heap.size,2,none⟩=some (.slice ua un uc):=by obtain ⟨q,rfl⟩:=HD.out;exact e2
         have hbx:∀ q,Below W.heap.size W (wr.drewN q):=by obtain ⟨q,rfl⟩:=HD.out;exact fun q'=>below_drewN (below_drewN HB2.out _) _
         have HBX:=hid hbx;clear hbx
         by_cases hltj:j<un
         ·have HOj:=hid (kpInts HO.out (keeps_dr _ _ HD.out))
          have HJ:=hid (HOj.out.take (j:=j) (by omega))
          obtain ⟨vb,vo,rfl,x0,hx6⟩:=intsAtB HOj.out hltj
          obtain ⟨x,hx⟩:∃ x,ix us j=x:=⟨_,rfl⟩
          rw [hx] at x0 hx6
          have HX:=hid hx;clear hx
          have hcI:=hid (fun w'=>specIn x 0 ((m:Int) - 1) w')
          by_cases h6:0≤x∧x≤(m:Int) - 1
          ·have HC:Hid (∀ w',Calls Tryd.prog 41 #[.int .i64 x,.int .i64 0,.int .i64 ((m:Int) - 1)] w' (Gives w' (.bool true))):=hid (fun w'=>by have:=hcI.out w';rwa [show decide (0≤x∧x≤(m:Int) - 1)=true by simpa using h6] at this)
           obtain ⟨f,hfe⟩:∃ f,findF (us.take j) x=f:=⟨_,rfl⟩
           have HCF:Hid (∀ w',IntsA fz lo hi w' (some ⟨vb,vo,none⟩) j uc (us.take j)→Calls Tryd.prog 43 #[.slice (some ⟨vb,vo,none⟩) j uc,.int .i64 x] w' (Gives w' (.int .i64 f))):=hid (fun w' h=>by have:=specFind _ j uc (us.take j) x w' h;rwa [hfe] at this)
           by_cases hf:0≤f
           ·have HF:=hid (qOK_set (nv:=(m:Int)) (xs:=xs) (us:=us) (fun g=>(g j (by rw [HL.out.2];exact hltj)).2 (by rw [HX.out,hfe];exact hf)))
            have H6:=hid h6;clear h6 hfe
            go_wp2_with fail
            go_quiet (first
             | (go_at_call 41;exact (Calls.quiet_of (HC.out _)))
             | (go_at_call 43;exact (Calls.quiet_of (HCF.out _ (HJ.out.drewN _)))))
            go_wp2_with fail
            go_ret
            exact ⟨by rw [HF.out];rfl,HW.out.2.trans ((HBX.out _).mono (by omega))⟩
           ·have HST2:=hid (HST.out.succ (by rw [HX.out,hfe];exact ⟨h6,hf⟩))
            have H6:=hid h6;clear h6 hfe
            go_wp2_with fail
            go_quiet (first
             | (go_at_call 41;exact (Calls.quiet_of (HC.out _)))
             | (go_at_call 43;exact (Calls.quiet_of (HCF.out _ (HJ.out.drewN _)))))
            go_wp2_with fail
            go_roundw
            case rel=>exact ⟨j+1,by go_num,by omega,HST2,hid (by first | exact HD.out | exact dr_more HD.out _ | (rw [dd];exact dr_more HD.out _) | (rw [dd,dd];exact dr_more HD.out _) | exact ⟨_,rfl⟩ | exact ⟨_,dd⟩)⟩
            case measure=>simp [intOf];omega
          ·have HC:Hid (∀ w',Calls Tryd.prog 41 #[.int .i64 x,.int .i64 0,.int .i64 ((m:Int) - 1)] w' (Gives w' (.bool false))):=hid (fun w'=>by have:=hcI.out w';rwa [show decide (0≤x∧x≤(m:Int) - 1)=false by simpa using h6] at this)
           have HF:=hid (qOK_set (nv:=(m:Int)) (xs:=xs) (us:=us) (fun g=>h6 (by have:=(g j (by rw [HL.out.2];exact hltj)).1;rwa [HX.out] at this)))
           have H6:=hid h6;clear h6
           go_wp2_with fail
           go_quiet ((go_at_call 41;exact (Calls.quiet_of (HC.out _))))
           go_wp2_with fail
           go_ret
           exact ⟨by rw [HF.out];rfl,HW.out.2.trans ((HBX.out _).mono (by omega))⟩
         ·have HF:=hid (qOK_yes HHD.out (show SetTo us (m:Int) us.length by have:=HST.out;rwa [show j=us.length by have:=HL.out.2;omega] at this) HAE.out HCO.out)
          go_wp2_with fail
          go_ret
          exact ⟨by rw [HF.out];rfl,HW.out.2.trans ((HBX.out 0).mono (by omega))⟩
   ·have HF:=hid (qOK_long (nv:=(m:Int)) (xs:=xs) (us:=us) (by omega) (by have:=HL.out.2;omega))
    have H12:=hid (And.intro h1 h2);clear h1 h2
    go_enter Tryd.func17,Tryd.ntmps17
    go_upto_region 1 with fail
    rw [← HW.out.1]
    go_wp2_with fail
    refine (specIn (m:Int) 1 5 _).mono ?_
    rintro e w1 ⟨rfl,m1,rfl⟩
    rw [hd1]
    go_wp2_with fail
    refine (specIn (n:Int) 1 4 _).mono ?_
    rintro e w2 ⟨rfl,m2,rfl⟩
    rw [hd2]
    go_wp2_with fail
    go_ret
    first | exact ⟨by rw [HF.out];rfl,below_drewN HW.out.2 _⟩ | exact ⟨by rw [HF.out];rfl,below_drewN (below_drewN HW.out.2 _) _⟩
  ·have hd2:decide ((1:Int)≤n∧(n:Int)≤4)=false:=by simpa using h2
   have HF:=hid (qOK_head (nv:=(m:Int)) (xs:=xs) (us:=us) (fun g=>h2 (by have:=g.2;have:=HL.out.1;omega)))
   have H12:=hid (And.intro h1 h2);clear h1 h2
   go_enter Tryd.func17,Tryd.ntmps17
   go_upto_region 1 with fail
   rw [← HW.out.1]
   go_wp2_with fail
   refine (specIn (m:Int) 1 5 _).mono ?_
   rintro e w1 ⟨rfl,m1,rfl⟩
   rw [hd1]
   go_wp2_with fail
   refine (specIn (n:Int) 1 4 _).mono ?_
   rintro e w2 ⟨rfl,m2,rfl⟩
   rw [hd2]
   go_wp2_with fail
   go_ret
   first | exact ⟨by rw [HF.out];rfl,below_drewN HW.out.2 _⟩ | exact ⟨by rw [HF.out];rfl,below_drewN (below_drewN HW.out.2 _) _⟩
 ·have hd1:decide (1≤nv∧nv≤5)=false:=by simpa using h1
  have HF:=hid (qOK_head (xs:=xs) (us:=us) (fun g=>h1 g.1))
  go_enter Tryd.func17,Tryd.ntmps17
  go_upto_region 1 with fail
  rw [← HW.out.1]
  go_wp2_with fail
  refine (specIn nv 1 5 _).mono ?_
  rintro e w1 ⟨rfl,m1,rfl⟩
  rw [hd1]
  go_wp2_with fail
  go_ret
  exact ⟨by rw [HF.out];rfl,below_drewN HW.out.2 _⟩
end Go.Proofs.YtkohkoiegmcghaaDoor
namespace Go.Proofs.YtkohkoiegmcghaaDoor
set_option linter.unusedSimpArgs false
set_option linter.unusedVariables false
open Go.RowKit
noncomputable def awTo (xs:List AtomD) (v:Int) (k:Nat):List Int:=((List.range k).filter fun i=>occ (ax xs i).vs v).map fun (i:Nat)=>(i:Int)
noncomputable def awF (nv:Int) (xs:List AtomD) (us:List Int) (v:Int):List Int:=if qOK nv xs us=true then awTo xs v xs.length else []
noncomputable def degF (nv:Int) (xs:List AtomD) (us:List Int) (v:Int):Nat:=(awF nv xs us v).length
end Go.Proofs.YtkohkoiegmcghaaDoor
namespace Go.Proofs.YtkohkoiegmcghaaDoor
set_option linter.unusedSimpArgs false
set_option linter.unusedVariables false
open Go.RowKit
abbrev atomDV (x:AtomD):DV:=.agg [.str x.nm,intsD x.vs]
abbrev queryD (nv:Int) (xs:List AtomD) (us:List Int):DV:=.agg [.int nv,.sl 2 (xs.map atomDV),intsD us]
def NmOK (xs:List AtomD):Prop:=∀ x∈xs,x.nm.size≤9223372036854775807
theorem cv_atom {G:Gh} {w:World} {x:AtomD} {v:Value} (hC:∀ b i,G.C b i→b<w.heap.size) (h:CV G w (.d (atomDV x)) v):∃ a n c,v=atomV x.nm a n c∧IntsA false 0 w.heap.size w a n c x.vs:=by
 obtain ⟨us,⟨u1,r1,rfl,rfl,u2,r2,rfl,h2,rfl⟩,rfl⟩:=cvAgg.1 h
 obtain ⟨a,n,c,rfl,hI⟩:=cx_ints hC h2
 exact ⟨a,n,c,rfl,hI⟩
theorem cx_atoms {C:Nat→Nat→Prop} {w:World} {xs:List AtomD} {us:List Value} (hC:∀ b i,C b i→b<w.heap.size) (hn:NmOK xs) (h:CX C w (.sl 2 (xs.map atomDV)) us):∃ a n c,us=[.slice a n c]∧AtomsA false 0 w.heap.size w a n c xs:=by
 obtain ⟨a,n,c,vs,rfl,h2,h3,h4⟩:=h
 simp only [List.length_map] at h2
 have hlen:=h3.len
 refine ⟨a,n,c,rfl,h2,h4.2.1,h4.2.2.1,fun hn0=>?_,h4.2.2.2.1⟩
 obtain ⟨b,off,ha,hc⟩:=h4.2.2.2.2.2 hn0
 have hat:∀ i (hi:i<xs.length),∃ ra rn rc,vs[i*2]? = some (.string xs[i].nm)∧vs[i*2+1]? = some (.slice ra rn rc)∧IntsA false 0 w.heap.size w ra rn rc xs[i].vs:=fun i hi=>by
  have:=CXk.at h3 i (atomDV xs[i]) (by rw [List.getElem?_map,List.getElem?_eq_getElem hi];rfl)
  obtain ⟨u1,r1,e1,rfl,u2,r2,rfl,h6,rfl⟩:=this
  obtain ⟨ra,rn,rc,rfl,hI⟩:=cx_ints hC h6
  refine ⟨ra,rn,rc,?_,?_,hI⟩
  ·have:=congrArg (·[0]?) e1
   simpa [List.getElem?_take,List.getElem?_drop] using this
  ·have:=congrArg (·[1]?) e1
   simpa [List.getElem?_take,List.getElem?_drop] using this
 obtain ⟨_,_,_,g0,_⟩:=hat 0 (by omega)
 refine ⟨b,off,ha,Nat.zero_le _,hC b _ (hc _ _ g0).1,fun i hi=>?_⟩
 obtain ⟨ra,rn,rc,g1,g2,hI⟩:=hat i (by omega)
 refine ⟨[.string xs[i].nm,.slice ra rn rc],xs[i],rfl,List.getElem?_eq_getElem (by omega),⟨ra,rn,rc,rfl,hn _ (List.getElem_mem _),hI⟩,fun j hj=>?_⟩
 rcases (by omega:j=0∨j=1) with rfl | rfl
 ·exact ⟨by simpa using (hc _ _ g1).2,fun h=>(by cases h)⟩
 ·exact ⟨by simpa [Nat.add_assoc] using (hc _ _ g2).2,fun h=>(by cases h)⟩
theorem cv_query {G:Gh} {w:World} {nv:Int} {xs:List AtomD} {us:List Int} {v:Value} (hC:∀ b i,G.C b i→b<w.heap.size) (hn:NmOK xs) (h:CV G w (.d (queryD nv xs us)) v):∃ a n c ua un uc,v=queryV nv a n c ua un uc∧QueryA false 0 w.heap.size w nv a n c xs ua un uc us:=by
 obtain ⟨cs,⟨u1,r1,rfl,⟨rfl,h1⟩,u2,r2,rfl,h2,u3,r3,rfl,h3,rfl⟩,rfl⟩:=cvAgg.1 h
 obtain ⟨a,n,c,rfl,hA⟩:=cx_atoms hC hn h2
 obtain ⟨ua,un,uc,rfl,hU⟩:=cx_ints hC h3
 exact ⟨a,n,c,ua,un,uc,rfl,h1,hA,hU⟩
theorem own_afn {f:FuncId} {args:List AV} {xs:List Int} (hf:FnOK f) (h:∀ (w:World) (G:Gh) (vs:List Value),CVs G w args vs→(∀ b i,G.C b i→b<w.heap.size)→Calls Tryd.prog f vs.toArray w (GivesOwn w xs)) :
 AFn f args [] (fun r os=>r=.d (intsD xs)∧os=[]):=by
 refine afn_of_calls hf fun w G vs h1 h2=>(h w G vs h1 h2).mono ?_
 rintro e w' ⟨a,n,c,rfl,hI,hb⟩
 exact ⟨hb,_,_,rfl,⟨rfl,rfl⟩,cvSl.2 (own_cx hI.ints (fun b i h1 h2 h3=>.inr ⟨h1,h2,h3⟩))⟩
section
variable (nv:Int) (xs:List AtomD) (us:List Int) (hn:NmOK xs)
include hn
theorem implValidQA:AFn 28 [.d (queryD nv xs us)] [] (fun r os=>r=.d (.bool (qOK nv xs us))∧os=[]):=by
 refine leaf_afn (fnOK (by kernel_rfl)) (fun _ _=>cvBool.2 rfl) ?_
 rintro w G _ ⟨v,_,rfl,h1,rfl⟩ hC
 obtain ⟨a,n,c,ua,un,uc,rfl,hI⟩:=cv_query hC hn h1
 exact implValidQ nv a n c xs ua un uc us w hI (Nat.le_refl _)
theorem specValidQA:AFn 17 [.d (queryD nv xs us)] [] (fun r os=>r=.d (.bool (qOK nv xs us))∧os=[]):=by
 refine leaf_afn (fnOK (by kernel_rfl)) (fun _ _=>cvBool.2 rfl) ?_
 rintro w G _ ⟨v,_,rfl,h1,rfl⟩ hC
 obtain ⟨a,n,c,ua,un,uc,rfl,hI⟩:=cv_query hC hn h1
 exact specValidQ nv a n c xs ua un uc us w hI (Nat.le_refl _)
end
theorem implHasA (x:AtomD) (v:Int):AFn 30 [.d (atomDV x),.d (.int v)] [] (fun r os=>r=.d (.bool (occ x.vs v))∧os=[]):=by
 refine leaf_afn (fnOK (by kernel_rfl)) (fun _ _=>cvBool.2 rfl) ?_
 rintro w G _ ⟨v1,_,rfl,h1,v2,_,rfl,h2,rfl⟩ hC
 obtain ⟨a,n,c,rfl,hI⟩:=cv_atom hC h1
 obtain ⟨rfl,_⟩:=cvInt.1 h2
 exact implHasVar x.nm a n c x.vs v w hI (Nat.le_refl _)
theorem specHasA (x:AtomD) (v:Int):AFn 32 [.d (atomDV x),.d (.int v)] [] (fun r os=>r=.d (.bool (occ x.vs v))∧os=[]):=by
 refine leaf_afn (fnOK (by kernel_rfl)) (fun _ _=>cvBool.2 rfl) ?_
 rintro w G _ ⟨v1,_,rfl,h1,v2,_,rfl,h2,rfl⟩ hC
 obtain ⟨a,n,c,rfl,hI⟩:=cv_atom hC h1
 obtain ⟨rfl,_⟩:=cvInt.1 h2
 exact specHasVar x.nm a n c x.vs v w hI (Nat.le_refl _)
end Go.Proofs.YtkohkoiegmcghaaDoor
namespace Go.Proofs.YtkohkoiegmcghaaDoor
set_option linter.unusedSimpArgs false
set_option linter.unusedVariables false
open Go.RowKit
noncomputable def ordOK (nv:Int) (xs:List AtomD) (us os:List Int):Bool:=qOK nv xs us && (decide ((os.length:Int)=nv) && setB os nv)
def idTo (k:Nat):List Int:=(List.range k).map fun (i:Nat)=>(i:Int)
theorem idTo_len (k:Nat):(idTo k).length=k:=by simp [idTo]
theorem idTo_succ (k:Nat):idTo (k+1)=idTo k ++ [(k:Int)]:=by simp [idTo,List.range_succ]
noncomputable def defF (nv:Int) (xs:List AtomD) (us:List Int):List Int:=if qOK nv xs us=true then idTo nv.toNat else []
theorem defF_no {nv:Int} {xs:List AtomD} {us:List Int} (h:qOK nv xs us=false):defF nv xs us=[]:=by simp [defF,h]
theorem defF_yes {m:Nat} {xs:List AtomD} {us:List Int} (h:qOK (m:Int) xs us=true):defF m xs us=idTo m:=by simp [defF,h]
set_option maxHeartbeats 1600000 in
theorem implDefOrd {fz:Bool} {lo hi:Nat} (nv:Int) (a:Option Addr) (n c:Nat) (xs:List AtomD) (ua:Option Addr) (un uc:Nat) (us:List Int) (w:World) (hI:QueryA fz lo hi w nv a n c xs ua un uc us) (hh:hi≤w.heap.size) :
 Calls Tryd.prog 46 #[queryV nv a n c ua un uc] w (GivesOwn w (defF nv xs us)):=by
 have HI:=hid hI;clear hI
 obtain ⟨q,hq⟩:∃ q,qOK nv xs us=q:=⟨_,rfl⟩
 have HQ:=hid hq;clear hq
 cases q with
 | false =>
  have HF:=hid (defF_no HQ.out)
  go_enter Tryd.func46,Tryd.ntmps46
  go_wp2_with fail
  refine (implValidQ nv a n c xs ua un uc us _ (beQuery (B:=w.heap.size) HI.out belA hh) leA).mono ?_
  rintro e w1 ⟨rfl,hb1⟩
  rw [HQ.out]
  have HB:=hid (Below.trans (b:=w.alloc (.cells #[.int .i64 nv,.slice a n c,.slice ua un uc] 27)) (B:=w.heap.size) (a:=w) belA (hb1.mono leA));clear hb1
  go_wp2_with fail
  go_ret
  rw [HF.out]
  exact ⟨_,_,_,rfl,own_nil _ _,HB.out⟩
 | true =>
  have hn:=(qOK_out HQ.out).1.1
  obtain ⟨m,rfl⟩:=Int.eq_ofNat_of_zero_le (show 0≤nv by omega)
  have hm5:m≤5:=by omega
  clear hn
  have HF:=hid (defF_yes HQ.out)
  go_enter Tryd.func46,Tryd.ntmps46
  go_wp2_with fail
  refine (implValidQ m a n c xs ua un uc us _ (beQuery (B:=w.heap.size) HI.out belA hh) leA).mono ?_
  rintro e w1 ⟨rfl,hb1⟩
  rw [HQ.out]
  have c0:w1.cell? ⟨w.heap.size,0,none⟩=some (.int .i64 m):=(by rw [(bcell hb1).1 _ _ (by first | omega | (simp;done) | (simp;omega))];first | with_reducible assumption | (go_simp;done) | assumption | (simp [World.cell?];done))
  have hz1:w.heap.size<w1.heap.size:=World.block_lt_of_cell? _ _ c0
  have HB:=hid (Below.trans (b:=w.alloc (.cells #[.int .i64 m,.slice a n c,.slice ua un uc] 27)) (B:=w.heap.size) (a:=w) belA (hb1.mono leA));clear hb1
  go_wp2_with fail
  go_loopw [3,4] (fun v i wr=>∃ (k:Nat) (ao:Option Addr) (m' co:Nat),i=.int .i64 k∧v=.slice ao m' co∧k≤m∧Own w1.heap.size wr ao m' co (idTo k)∧Below w1.heap.size w1 wr) (fun _ i _=>m - (intOf i).toNat)
  case atStart=>exact ⟨0,_,0,0,rfl,rfl,by omega,own_nil _ _,Below.refl _ _⟩
  case round =>
   obtain ⟨k,ao,m',co,rfl,rfl,hk,hown,hbel⟩:=hrel
   have hm':m'≤k:=by have g1:=hown.len;rw [idTo_len] at g1;omega
   have hzw:=hbel.size
   have k0:wr.cell? ⟨w.heap.size,0,none⟩=some (.int .i64 m):=by rw [(bcell hbel).1 _ _ hz1];exact c0
   have HI64:Hid (I64 (k:Int)):=hid (by unfold I64;omega)
   have HO:=hid hown;clear hown
   have HBL:=hid hbel;clear hbel
   by_cases hlt:k<m
   ·go_wp2_with (at_builtin;refine wpApp rfl (.tmp 14) (.tmp 16) rfl w1.heap.size ao m' co _ rfl (HO.out.alloc _) _ 1 1 _ rfl (one_ints _ _ _ HI64.out) (by omega) (by simp;omega) ?_)
    intro a1 c1' w5 ho2 hg2
    have hb2:Below w1.heap.size w1 w5:=ho0' HO.out HBL.out (by omega) hg2
    have HO2:=hid ho2;clear ho2
    have HB2:=hid hb2;clear hb2 hg2
    go_wp2
    go_roundw
    case rel=>exact ⟨k+1,a1,m'+1,c1',by go_num,rfl,by omega,by rw [idTo_succ];exact HO2.out,HB2.out⟩
    case measure=>simp [intOf];omega
   ·go_wp2_with fail
    go_ret
    obtain rfl:k=m:=by omega
    rw [HF.out]
    exact ⟨_,_,_,rfl,HO.out.low (by omega),HB.out.trans (HBL.out.mono (by omega))⟩
end Go.Proofs.YtkohkoiegmcghaaDoor
