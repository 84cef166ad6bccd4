/- Lemmas for the proof of FnExactAtomSizes, part 13 of 19: no condition of their own. -/
import Derived.Test.YtlpdbkhekbdceaaJ9
import Derived.Test.YtlpdbkhekbdceaaJ12
import Derived.Test.YtlpdbkhekbdceaaJ11
import Derived.Test.YtlpdbkhekbdceaaJ3
namespace Go.Proofs.Ytlpdbkhekbdceaa
set_option linter.unusedSimpArgs false
set_option linter.unusedVariables false
open Go.RowKit
abbrev atomDV (x:AtomD):DV:=.agg [.str x.nm,intsD x.vs]
abbrev queryD (nv:Int) (xs:List AtomD) (us:List Int):DV:=.agg [.int nv,.sl 2 (xs.map atomDV),intsD us]
def NmOK (xs:List AtomD):Prop:=∀ x∈xs,x.nm.size≤9223372036854775807
theorem cv_atom {G:Gh} {w:World} {x:AtomD} {v:Value} (hC:∀ b i,G.C b i→b<w.heap.size) (h:CV G w (.d (atomDV x)) v):∃ a n c,v=atomV x.nm a n c∧IntsA false 0 w.heap.size w a n c x.vs:=by
 obtain ⟨us,⟨u1,r1,rfl,rfl,u2,r2,rfl,h2,rfl⟩,rfl⟩:=cvAgg.1 h
 obtain ⟨a,n,c,rfl,hI⟩:=cx_ints hC h2
 exact ⟨a,n,c,rfl,hI⟩
theorem cx_atoms {C:Nat→Nat→Prop} {w:World} {xs:List AtomD} {us:List Value} (hC:∀ b i,C b i→b<w.heap.size) (hn:NmOK xs) (h:CX C w (.sl 2 (xs.map atomDV)) us):∃ a n c,us=[.slice a n c]∧AtomsA false 0 w.heap.size w a n c xs:=by
 obtain ⟨a,n,c,vs,rfl,h2,h3,h4⟩:=h
 simp only [List.length_map] at h2
 have hlen:=h3.len
 refine ⟨a,n,c,rfl,h2,h4.2.1,h4.2.2.1,fun hn0=>?_,h4.2.2.2.1⟩
 obtain ⟨b,off,ha,hc⟩:=h4.2.2.2.2.2 hn0
 have hat:∀ i (hi:i<xs.length),∃ ra rn rc,vs[i*2]? = some (.string xs[i].nm)∧vs[i*2+1]? = some (.slice ra rn rc)∧IntsA false 0 w.heap.size w ra rn rc xs[i].vs:=fun i hi=>by
  have:=CXk.at h3 i (atomDV xs[i]) (by rw [List.getElem?_map,List.getElem?_eq_getElem hi];rfl)
  obtain ⟨u1,r1,e1,rfl,u2,r2,rfl,h6,rfl⟩:=this
  obtain ⟨ra,rn,rc,rfl,hI⟩:=cx_ints hC h6
  refine ⟨ra,rn,rc,?_,?_,hI⟩
  ·have:=congrArg (·[0]?) e1
   simpa [List.getElem?_take,List.getElem?_drop] using this
  ·have:=congrArg (·[1]?) e1
   simpa [List.getElem?_take,List.getElem?_drop] using this
 obtain ⟨_,_,_,g0,_⟩:=hat 0 (by omega)
 refine ⟨b,off,ha,Nat.zero_le _,hC b _ (hc _ _ g0).1,fun i hi=>?_⟩
 obtain ⟨ra,rn,rc,g1,g2,hI⟩:=hat i (by omega)
 refine ⟨[.string xs[i].nm,.slice ra rn rc],xs[i],rfl,List.getElem?_eq_getElem (by omega),⟨ra,rn,rc,rfl,hn _ (List.getElem_mem _),hI⟩,fun j hj=>?_⟩
 rcases (by omega:j=0∨j=1) with rfl | rfl
 ·exact ⟨by simpa using (hc _ _ g1).2,fun h=>(by cases h)⟩
 ·exact ⟨by simpa [Nat.add_assoc] using (hc _ _ g2).2,fun h=>(by cases h)⟩
theorem cv_query {G:Gh} {w:World} {nv:Int} {xs:List AtomD} {us:List Int} {v:Value} (hC:∀ b i,G.C b i→b<w.heap.size) (hn:NmOK xs) (h:CV G w (.d (queryD nv xs us)) v):∃ a n c ua un uc,v=queryV nv a n c ua un uc∧QueryA false 0 w.heap.size w nv a n c xs ua un uc us:=by
 obtain ⟨cs,⟨u1,r1,rfl,⟨rfl,h1⟩,u2,r2,rfl,h2,u3,r3,rfl,h3,rfl⟩,rfl⟩:=cvAgg.1 h
 obtain ⟨a,n,c,rfl,hA⟩:=cx_atoms hC hn h2
 obtain ⟨ua,un,uc,rfl,hU⟩:=cx_ints hC h3
 exact ⟨a,n,c,ua,un,uc,rfl,h1,hA,hU⟩
theorem own_afnG {f:FuncId} {args:List AV} {xs:List Int} (hf:FnOK f) (h:∀ (w:World) (G:Gh) (vs:List Value),CVs G w args vs→(∀ b i,G.C b i→b<w.heap.size)→Calls Try.prog f vs.toArray w (GivesOwn w xs)) :
 AFn f args [] (fun r os=>r=.d (intsD xs)∧os=[]):=by
 refine afn_of_calls hf fun w G vs h1 h2=>(h w G vs h1 h2).mono ?_
 rintro e w' ⟨a,n,c,rfl,hI,hb⟩
 exact ⟨hb,_,_,rfl,⟨rfl,rfl⟩,cvSl.2 (own_cx hI.ints (fun b i h1 h2 h3=>.inr ⟨h1,h2,h3⟩))⟩
section
variable (nv:Int) (xs:List AtomD) (us:List Int) (hn:NmOK xs)
include hn
theorem implValidQA:AFn 41 [.d (queryD nv xs us)] [] (fun r os=>r=.d (.bool (qOK nv xs us))∧os=[]):=by
 refine leaf_afn (fnOK (by kernel_rfl)) (fun _ _=>cvBool.2 rfl) ?_
 rintro w G _ ⟨v,_,rfl,h1,rfl⟩ hC
 obtain ⟨a,n,c,ua,un,uc,rfl,hI⟩:=cv_query hC hn h1
 exact implValidQ nv a n c xs ua un uc us w hI (Nat.le_refl _)
theorem specValidQA:AFn 34 [.d (queryD nv xs us)] [] (fun r os=>r=.d (.bool (qOK nv xs us))∧os=[]):=by
 refine leaf_afn (fnOK (by kernel_rfl)) (fun _ _=>cvBool.2 rfl) ?_
 rintro w G _ ⟨v,_,rfl,h1,rfl⟩ hC
 obtain ⟨a,n,c,ua,un,uc,rfl,hI⟩:=cv_query hC hn h1
 exact specValidQ nv a n c xs ua un uc us w hI (Nat.le_refl _)
end
theorem implVarsA (x:AtomD):AFn 44 [.d (atomDV x)] [] (fun r os=>r=.d (intsD (avTo x.vs 5))∧os=[]):=by
 refine own_afnG (fnOK (by kernel_rfl)) ?_
 rintro w G _ ⟨v1,_,rfl,h1,rfl⟩ hC
 obtain ⟨a,n,c,rfl,hI⟩:=cv_atom hC h1
 exact implAtomVars x.nm a n c x.vs w hI (Nat.le_refl _)
end Go.Proofs.Ytlpdbkhekbdceaa
namespace Go.Proofs.Ytlpdbkhekbdceaa
set_option linter.unusedSimpArgs false
set_option linter.unusedVariables false
open Go.RowKit
theorem CXk.mk {C:Nat→Nat→Prop} {w:World} {k:Nat}:∀ {m:List DV} {us:List Value},us.length=m.length*k→(∀ i x,m[i]? = some x→CX C w x ((us.drop (i*k)).take k))→CXk C w k m us
 | [],us,h,_=>List.eq_nil_of_length_eq_zero (by simpa using h)
 | x :: m,us,h,hh=>by
  have e:(x :: m).length*k=k+m.length*k:=by rw [List.length_cons,Nat.add_mul,Nat.one_mul,Nat.add_comm]
  rw [e] at h
  refine ⟨us.take k,us.drop k,(List.take_append_drop k us).symm,by simpa using hh 0 x rfl,by rw [List.length_take];omega,CXk.mk (by rw [List.length_drop,h];omega) fun i y hy=>?_⟩
  have:=hh (i+1) y (by simpa using hy)
  rw [List.drop_drop]
  rwa [show (i+1)*k=k+i*k by rw [Nat.add_mul,Nat.one_mul,Nat.add_comm]] at this
theorem atoms_cxc {C:Nat→Nat→Prop} {fz:Bool} {lo hi:Nat} {w:World} {a:Option Addr} {n c:Nat} {xs:List AtomD} (h:AtomsA fz lo hi w a n c xs) (hC:∀ b i,lo≤b→b<hi→w.cell? ⟨b,i,none⟩ ≠ none→C b i):CX C w (.sl 2 (xs.map atomDV)) [.slice a n c]:=by
 have hl:=h.len
 by_cases hn:n=0
 ·subst hn
  obtain rfl:xs=[]:=List.eq_nil_of_length_eq_zero hl
  exact ⟨a,0,c,[],rfl,rfl,rfl,rfl,h.2.1,h.2.2.1,h.2.2.2.2,fun _ h=>(by cases h),fun h=>absurd h (Nat.lt_irrefl 0)⟩
 ·obtain ⟨b,off,rfl⟩:=atomsSome h (by omega)
  have hv:∀ i,i<n*2→∃ u,w.cell? ⟨b,off+i,none⟩=some u∧u.oneCell'=true:=fun i hi=>by
   obtain ⟨_,_,_,ra,rn,rc,g1,g2,_⟩:=atomsAt h (show i / 2<n by omega)
   rcases Nat.mod_two_eq_zero_or_one i with e | e
   ·exact ⟨.string (ax xs (i / 2)).nm,by rw [← g1];congr 2;omega,rfl⟩
   ·exact ⟨.slice ra rn rc,by rw [← g2];congr 2;omega,rfl⟩
  have hvs:∀ i u,((List.range (n*2)).map (fun i=>(w.cell? ⟨b,off+i,none⟩).getD undef))[i]? = some u→i<n*2∧w.cell? ⟨b,off+i,none⟩=some u∧u.oneCell'=true:=fun i u hu=>by
   have hi:i<n*2:=by have:=(List.getElem?_eq_some_iff.1 hu).1;simpa using this
   obtain ⟨x,hx,h1⟩:=hv i hi
   rw [List.getElem?_map,List.getElem?_range hi,Option.map_some,hx] at hu
   cases hu
   exact ⟨hi,hx,h1⟩
  refine ⟨_,n,c,(List.range (n*2)).map (fun i=>(w.cell? ⟨b,off+i,none⟩).getD undef),rfl,by simpa using hl,CXk.mk (by simp [hl]) fun i x hx=>?_,by simp,h.2.1,h.2.2.1,h.2.2.2.2,fun u hu=>?_,fun _=>⟨b,off,rfl,fun i u hu=>?_⟩⟩
  ·rw [List.getElem?_map] at hx
   have hi:i<xs.length:=by
    cases e:xs[i]? with
    | none=>rw [e] at hx;cases hx
    | some y=>exact (List.getElem?_eq_some_iff.1 e).1
   rw [List.getElem?_eq_getElem hi,Option.map_some,← ax_lt hi] at hx
   cases hx
   obtain ⟨hb1,hb2,hsz,ra,rn,rc,g1,g2,g3,_⟩:=atomsAt h (show i<n by omega)
   have e:(((List.range (n*2)).map (fun i=>(w.cell? ⟨b,off+i,none⟩).getD undef)).drop (i*2)).take 2=[.string (ax xs i).nm,.slice ra rn rc]:=by
    apply List.ext_getElem?
    intro j
    rw [List.getElem?_take]
    split
    ·rename_i hj
     rw [List.getElem?_drop,List.getElem?_map,List.getElem?_range (by omega),Option.map_some]
     rcases (by omega:j=0∨j=1) with rfl | rfl
     ·simp [g1]
     ·rw [show off+(i*2+1)=off+i*2+1 by omega,g2];rfl
    ·rename_i hj
     rw [List.getElem?_eq_none (by simp;omega)]
   rw [e]
   exact ⟨[.string (ax xs i).nm],_,rfl,rfl,[.slice ra rn rc],[],rfl,ints_cxc g3 hC,rfl⟩
  ·obtain ⟨i,hi,rfl⟩:=List.mem_iff_getElem.1 hu
   exact (hvs i _ (List.getElem?_eq_getElem hi)).2.2
  ·obtain ⟨h1,h2,_⟩:=hvs i u hu
   obtain ⟨hb1,hb2,_⟩:=atomsAt h (show i / 2<n by omega)
   exact ⟨hC _ _ hb1 hb2 (by rw [h2];exact fun x=>(by cases x)),h2⟩
theorem nm_of {fz:Bool} {lo hi:Nat} {w:World} {a:Option Addr} {n c:Nat} {xs:List AtomD} (h:AtomsA fz lo hi w a n c xs):NmOK xs:=by
 intro x hx
 obtain ⟨i,hi,rfl⟩:=List.mem_iff_getElem.1 hx
 have hl:=h.len
 obtain ⟨b,off,rfl⟩:=atomsSome h (by omega)
 have:=(atomsAt h (show i<n by omega)).2.2.1
 rwa [ax_lt hi] at this
theorem szQ_len {xs:List AtomD} {us:List Int} {B:Nat} (h:szQuery xs us≤B):xs.length≤B:=by unfold szQuery atomsSz at h;omega
theorem query_cvs {fz:Bool} {lo hi lo':Nat} {w:World} {nv:Int} {a:Option Addr} {n c:Nat} {xs:List AtomD} {ua:Option Addr} {un uc:Nat} {us:List Int} (h:QueryA fz lo hi w nv a n c xs ua un uc us) (hh:hi≤w.heap.size) (hl:lo'≤lo) (G:Gh) (hG:G.C=cellsC lo' w):CV G w (.d (queryD nv xs us)) (queryV nv a n c ua un uc) :=
 cvAgg.2 ⟨[.int .i64 nv,.slice a n c,.slice ua un uc],⟨[.int .i64 nv],_,rfl,⟨rfl,h.1⟩,[.slice a n c],_,rfl,atoms_cxc h.2.1 (fun b i h1 h2 h3=>by rw [hG];exact ⟨by omega,by omega,h3⟩),[.slice ua un uc],[],rfl,ints_cxc h.2.2 (fun b i h1 h2 h3=>by rw [hG];exact ⟨by omega,by omega,h3⟩),rfl⟩,rfl⟩
end Go.Proofs.Ytlpdbkhekbdceaa
