/- Lemmas for the proof of FnExactAtomSizes, part 18 of 19: no condition of their own. -/
import Derived.Test.YtlpdbkhekbdceaaJ1
import Derived.ProofKit
import Derived.OpenShut
import Derived.ShutString
import Derived.ChangeOld
import Derived.Below
import Derived.Deep.Slices
import Derived.Test.YtlpdbkhekbdceaaJ2
import Derived.ChangeSame
import Derived.Test.YtlpdbkhekbdceaaJ11
import Derived.Test.YtlpdbkhekbdceaaJ3
namespace Go.Proofs.Ytlpdbkhekbdceaa
set_option linter.unusedSimpArgs false
set_option linter.unusedVariables false
open Go.ChangeShapes Go.WideShapes Go.ChangeAt Go.RowKit Go.Deep
theorem own:ownKnob Try.prog.godebug=none:=by kernel_rfl
theorem laidOut:laidOutB Try.prog=true:=by kernel_rfl
def ReadsBy {α:Type} (R:Rep α) (t:TypeId):Prop :=
 ∀ {H:Type} (enc:TypeId×Value→H) (W:World) (fuel:Nat) (cs:List Value) (x:DataW H×List MemPlace),DataW.trod enc Try.prog W 0 (fun _=>true) true fuel t cs=some x→∃ y,R false 0 W.heap.size W cs y
theorem reads_ints:ReadsBy intsR 26:=by
 intro H enc W fuel cs x h
 rcases open_ints Try.underlying26 Try.underlying3 (by kernel_rfl) h with ⟨hcs,_⟩ | ⟨a,l,c,zs,hcs,_,hl,hm,hz,_,hcell,hwz⟩
 ·exact ⟨[],none,0,0,hcs,intsA_nil W⟩
 ·exact ⟨zs.take l,some a,l,c,hcs,intsA_of_cells hl hm (by simpa using hz) hcell hwz⟩
theorem cells_at {w:World} {base:Nat} {a:Addr} {k:Nat} {cs:List Value} (h:w.cells? base a k=some cs):cs.length=k∧∀ j,j<k→w.cell? (a.add j)=some (cs.getD j undef):=by
 obtain ⟨_,hlen,hc⟩:=World.cells?_some h
 exact ⟨hlen,fun j hj=>by
  have:=hc j (by omega)
  simpa [List.getD,List.getElem?_eq_getElem (show j<cs.length by omega)] using this⟩
theorem reads_slice {α:Type} {R:Rep α} {t e k:Nat} (ht:Try.prog.underlying t=some (.slice e)) (hk:Try.prog.cellsOf e=k) (hk0:0<k) (hR:ReadsBy R e) :
 ∀ {H:Type} (enc:TypeId×Value→H) (W:World) (fuel:Nat) (cs:List Value) (x:DataW H×List MemPlace),DataW.trod enc Try.prog W 0 (fun _=>true) true fuel t cs=some x →
  ∃ a n c xs,cs=[.slice a n c]∧SlA k R false 0 W.heap.size W a n c xs:=by
 intro H enc W fuel cs x h
 rcases open_slice ht h with ⟨hcs,_⟩ | ⟨a,len,cap,m,n,D,Pl,rfl,_,hl,hm,hmm,_,hx⟩
 ·exact ⟨none,0,0,[],hcs,rfl,Nat.le_refl _,by simp [maxLen],fun h=>by omega,fun _=>rfl⟩
 ·simp only [if_true] at hmm
  subst hmm
  rw [hk] at hx
  have each:∀ i,i<m→∃ y:List Value×α,y.1.length=k∧R false 0 W.heap.size W y.1 y.2∧∀ j,j<k→W.cell? ((a.add (i*k)).add j)=some (y.1.getD j undef):=by
   intro i hi
   obtain ⟨cs',h1,h2⟩:=hx i hi
   obtain ⟨y,hy⟩:=hR enc W n cs' _ h2
   obtain ⟨g1,g2⟩:=cells_at h1
   exact ⟨(cs',y),g1,hy,g2⟩
  refine ⟨some a,len,m,?_⟩
  by_cases hm0:m=0
  ·refine ⟨[],rfl,?_,hl,hm,fun h=>by omega,fun h=>(by cases h)⟩
   simp;omega
  ·haveI:Inhabited α:=⟨(Classical.choose (each 0 (by omega))).2⟩
   obtain ⟨y,hy⟩:=choose_lt each
   obtain ⟨b,off,spot⟩:=a
   have h1:=(hy 0 (by omega)).2.2 0 hk0
   have hspot:spot=none:=by
    cases spot with
    | none=>rfl
    | some s=>simp [Addr.add,World.cell?] at h1;split at h1 <;> simp at h1
   subst hspot
   have hblk:=World.block_lt_of_cell? W _ h1
   refine ⟨(List.range len).map fun i=>(y i).2,rfl,by simp,hl,hm,fun hn=>⟨b,off,rfl,Nat.zero_le _,by simpa [Addr.add] using hblk,fun i hi=>?_⟩,fun h=>(by cases h)⟩
   obtain ⟨g1,g2,g3⟩:=hy i (by omega)
   refine ⟨(y i).1,(y i).2,g1,by simp [hi],g2,fun j hj=>⟨?_,fun h=>(by cases h)⟩⟩
   have:=g3 j hj
   rwa [Addr.add_lit,Addr.add_lit] at this
theorem reads_intsA {H:Type} (enc:TypeId×Value→H) (W:World) (fuel:Nat) (cs:List Value) (x:DataW H×List MemPlace) (h:DataW.trod enc Try.prog W 0 (fun _=>true) true fuel 26 cs=some x) :
 ∃ a n c xs,cs=[.slice a n c]∧IntsA false 0 W.heap.size W a n c xs:=by
 obtain ⟨xs,a,n,c,h1,h2⟩:=reads_ints enc W fuel cs x h
 exact ⟨a,n,c,xs,h1,h2⟩
theorem reads_rows {H:Type} (enc:TypeId×Value→H) (W:World) (fuel:Nat) (cs:List Value) (x:DataW H×List MemPlace) (h:DataW.trod enc Try.prog W 0 (fun _=>true) true fuel 51 cs=some x) :
 ∃ a n c xss,cs=[.slice a n c]∧RowsA false 0 W.heap.size W a n c xss:=reads_slice Try.underlying51 (by kernel_rfl) (by omega) reads_ints enc W fuel cs x h
end Go.Proofs.Ytlpdbkhekbdceaa
namespace Go.Proofs.Ytlpdbkhekbdceaa
set_option linter.unusedSimpArgs false
set_option linter.unusedVariables false
open Go.ChangeShapes Go.WideShapes Go.ChangeAt Go.RowKit Go.Deep
theorem cellsInt':Try.prog.cellsOf 3=1:=by kernel_rfl
theorem cellsRowsT':Try.prog.cellsOf 51=1:=by kernel_rfl
theorem cellsRelT:Try.prog.cellsOf 65=2:=by kernel_rfl
set_option maxRecDepth 100000 in
theorem reads_relC {H:Type} (enc:TypeId×Value→H) (W:World) (fuel:Nat) (cs:List Value) (x:DataW H×List MemPlace)
 (h:DataW.trod enc Try.prog W 0 (fun _=>true) true fuel 65 cs=some x):∃ ar a n c rows,cs=[.int .i64 ar,.slice a n c]∧TrieA false 0 W.heap.size W ar a n c rows:=by
 obtain ⟨y0,y1,m,_,hl,h0,h1⟩:=trod_struct2 Try.underlying65 h
 rw [cellsRelT] at hl
 match cs,hl with
 | [c0,c1],_ =>
  simp only [List.drop_zero,List.drop_succ_cons,cellsInt',cellsRowsT',List.take_succ_cons,List.take_zero] at h0 h1
  obtain ⟨ar,e0,_,hw⟩:=DataW.trod_int Try.underlying3 h0
  obtain ⟨a,n,c,rows,e1,hR⟩:=reads_rows enc W m _ _ h1
  simp only [List.cons.injEq,and_true] at e0 e1
  subst e0;subst e1
  exact ⟨ar,a,n,c,rows,rfl,i64_of_wf hw,hR⟩
end Go.Proofs.Ytlpdbkhekbdceaa
namespace Go.Proofs.Ytlpdbkhekbdceaa
set_option linter.unusedSimpArgs false
set_option linter.unusedVariables false
open Go.ChangeShapes Go.WideShapes Go.ChangeAt Go.RowKit Go.Deep
theorem cellsStrD:Try.prog.cellsOf 9=1:=by kernel_rfl
theorem cellsTablesD:Try.prog.cellsOf 22=1:=by kernel_rfl
theorem cellsTableD:Try.prog.cellsOf 67=3:=by kernel_rfl
theorem cellsDbD:Try.prog.cellsOf 24=1:=by kernel_rfl
set_option maxRecDepth 100000 in
theorem reads_tableBy:ReadsBy tableR 67:=by
 intro H enc W fuel cs x h
 obtain ⟨y0,y1,m,_,hl,h0,h1⟩:=trod_struct2 Try.underlying67 h
 rw [cellsTableD] at hl
 match cs,hl with
 | [c0,c1,c2],_ =>
  simp only [List.drop_zero,List.drop_succ_cons,cellsStrD,cellsRelT,List.take_succ_cons,List.take_zero] at h0 h1
  obtain ⟨s,e0,_,hw⟩:=DataW.trod_string Try.underlying9 h0
  obtain ⟨ar,a,n,c,rows,e1,hR⟩:=reads_relC enc W m _ _ h1
  simp only [List.cons.injEq,and_true] at e0 e1
  obtain ⟨rfl,rfl⟩:=e1
  subst e0
  exact ⟨⟨s,ar,rows⟩,a,n,c,rfl,hw,hR⟩
set_option maxRecDepth 100000 in
theorem reads_tablesA {H:Type} (enc:TypeId×Value→H) (W:World) (fuel:Nat) (cs:List Value) (x:DataW H×List MemPlace) (h:DataW.trod enc Try.prog W 0 (fun _=>true) true fuel 22 cs=some x) :
 ∃ a n c xs,cs=[.slice a n c]∧TablesA false 0 W.heap.size W a n c xs:=reads_slice Try.underlying22 cellsTableD (by omega) reads_tableBy enc W fuel cs x h
set_option maxRecDepth 100000 in
theorem reads_db {H:Type} (enc:TypeId×Value→H) (W:World) {base:Nat} {v:Value} {d:DataW H} {p:List MemPlace} (hv:Value.okWide Try.prog W .any base 24 v)
 (h:DataW.Trod enc Try.prog W 0 (fun _=>true) true 24 v d p) :
 ∃ a n c xs,v=dbV a n c∧TablesA false 0 W.heap.size W a n c xs:=by
 obtain ⟨cs,rfl,hsz⟩:=okWide_struct Try.underlying24 hv
 obtain ⟨fuel,hf⟩:=h
 obtain ⟨ys,m,_,_,hl,hlen,hf⟩:=DataW.trod_struct Try.underlying24 hf
 rw [cellsDbD] at hl
 obtain ⟨l⟩:=cs
 simp only [Value.cells] at hl hf
 match ys,hlen with
 | [y0],_ =>
  match l,hl with
  | [c0],_ =>
   have h0:=hf 0 _ rfl
   change DataW.trod enc Try.prog W 0 (fun _=>true) true m 22 (([c0].drop 0).take (Try.prog.cellsOf 22))=some y0 at h0
   rw [cellsTablesD] at h0
   simp only [List.drop_zero,List.take_succ_cons,List.take_zero] at h0
   obtain ⟨a,n,c,xs,e1,hR⟩:=reads_tablesA enc W m _ _ h0
   simp only [List.cons.injEq,and_true] at e1
   subst e1
   exact ⟨a,n,c,xs,rfl,hR⟩
end Go.Proofs.Ytlpdbkhekbdceaa
namespace Go.Proofs.Ytlpdbkhekbdceaa
set_option linter.unusedSimpArgs false
set_option linter.unusedVariables false
open Go.ChangeShapes Go.WideShapes Go.ChangeAt Go.RowKit Go.Deep
theorem cellsStrA:Try.prog.cellsOf 9=1:=by kernel_rfl
theorem cellsIntsA:Try.prog.cellsOf 26=1:=by kernel_rfl
theorem cellsAtomA:Try.prog.cellsOf 69=2:=by kernel_rfl
set_option maxRecDepth 100000 in
theorem reads_atomC {H:Type} (enc:TypeId×Value→H) (W:World) (fuel:Nat) (cs:List Value) (x:DataW H×List MemPlace)
 (h:DataW.trod enc Try.prog W 0 (fun _=>true) true fuel 69 cs=some x):∃ s a n c xs,cs=[.string s,.slice a n c]∧AtomA false 0 W.heap.size W s a n c xs:=by
 obtain ⟨y0,y1,m,_,hl,h0,h1⟩:=trod_struct2 Try.underlying69 h
 rw [cellsAtomA] at hl
 match cs,hl with
 | [c0,c1],_ =>
  simp only [List.drop_zero,List.drop_succ_cons,cellsStrA,cellsIntsA,List.take_succ_cons,List.take_zero] at h0 h1
  obtain ⟨s,e0,_,hw⟩:=DataW.trod_string Try.underlying9 h0
  obtain ⟨a,n,c,xs,e1,hR⟩:=reads_intsA enc W m _ _ h1
  simp only [List.cons.injEq,and_true] at e0 e1
  subst e0;subst e1
  exact ⟨s,a,n,c,xs,rfl,hw,hR⟩
end Go.Proofs.Ytlpdbkhekbdceaa
namespace Go.Proofs.Ytlpdbkhekbdceaa
set_option linter.unusedSimpArgs false
set_option linter.unusedVariables false
open Go.ChangeShapes Go.WideShapes Go.ChangeAt Go.RowKit Go.Deep
theorem cellsAtomsQ:Try.prog.cellsOf 25=1:=by kernel_rfl
theorem cellsIntQ:Try.prog.cellsOf 3=1:=by kernel_rfl
theorem cellsQuery:Try.prog.cellsOf 28=3:=by kernel_rfl
set_option maxRecDepth 100000 in
theorem reads_atomBy:ReadsBy atomR 69:=by
 intro H enc W fuel cs x h
 obtain ⟨s,a,n,c,xs,hcs,hD⟩:=reads_atomC enc W fuel cs x h
 exact ⟨⟨s,xs⟩,a,n,c,hcs,hD.1,hD.2⟩
set_option maxRecDepth 100000 in
theorem reads_atomsA {H:Type} (enc:TypeId×Value→H) (W:World) (fuel:Nat) (cs:List Value) (x:DataW H×List MemPlace) (h:DataW.trod enc Try.prog W 0 (fun _=>true) true fuel 25 cs=some x) :
 ∃ a n c xs,cs=[.slice a n c]∧AtomsA false 0 W.heap.size W a n c xs:=reads_slice Try.underlying25 cellsAtomA (by omega) reads_atomBy enc W fuel cs x h
set_option maxRecDepth 100000 in
theorem reads_queryC {H:Type} (enc:TypeId×Value→H) (W:World) (fuel:Nat) (cs:List Value) (x:DataW H×List MemPlace)
 (h:DataW.trod enc Try.prog W 0 (fun _=>true) true fuel 28 cs=some x) :
 ∃ nv a n c xs ua un uc us,cs=[.int .i64 nv,.slice a n c,.slice ua un uc]∧QueryA false 0 W.heap.size W nv a n c xs ua un uc us:=by
 obtain ⟨ys,m,_,_,hl,hlen,hf⟩:=DataW.trod_struct Try.underlying28 h
 rw [cellsQuery] at hl
 match ys,hlen with
 | [y0,y1,y2],_ =>
  match cs,hl with
  | [c0,c1,c2],_ =>
   have h0:=hf 0 _ rfl
   have h1:=hf 1 _ rfl
   have h2:=hf 2 _ rfl
   change DataW.trod enc Try.prog W 0 (fun _=>true) true m 3 (([c0,c1,c2].drop 0).take (Try.prog.cellsOf 3))=some y0 at h0
   change DataW.trod enc Try.prog W 0 (fun _=>true) true m 25 (([c0,c1,c2].drop 1).take (Try.prog.cellsOf 25))=some y1 at h1
   change DataW.trod enc Try.prog W 0 (fun _=>true) true m 26 (([c0,c1,c2].drop 2).take (Try.prog.cellsOf 26))=some y2 at h2
   rw [cellsIntQ] at h0
   rw [cellsAtomsQ] at h1
   rw [cellsIntsA] at h2
   simp only [List.drop_zero,List.drop_succ_cons,List.take_succ_cons,List.take_zero] at h0 h1 h2
   obtain ⟨nv,e0,_,hw⟩:=DataW.trod_int Try.underlying3 h0
   obtain ⟨a,n,c,xs,e1,hR⟩:=reads_atomsA enc W m _ _ h1
   obtain ⟨ua,un,uc,us,e2,hR2⟩:=reads_intsA enc W m _ _ h2
   simp only [List.cons.injEq,and_true] at e0 e1 e2
   subst e0;subst e1;subst e2
   exact ⟨nv,a,n,c,xs,ua,un,uc,us,rfl,i64_of_wf hw,hR,hR2⟩
set_option maxRecDepth 100000 in
theorem reads_query {H:Type} (enc:TypeId×Value→H) (W:World) {base:Nat} {v:Value} {d:DataW H} {p:List MemPlace} (hv:Value.okWide Try.prog W .any base 28 v)
 (h:DataW.Trod enc Try.prog W 0 (fun _=>true) true 28 v d p) :
 ∃ nv a n c xs ua un uc us,v=queryV nv a n c ua un uc∧QueryA false 0 W.heap.size W nv a n c xs ua un uc us:=by
 obtain ⟨cs,rfl,hsz⟩:=okWide_struct Try.underlying28 hv
 obtain ⟨fuel,hf⟩:=h
 obtain ⟨nv,a,n,c,xs,ua,un,uc,us,hcs,hD⟩:=reads_queryC enc W fuel _ _ hf
 obtain ⟨l⟩:=cs
 simp only [Value.cells] at hcs
 subst hcs
 exact ⟨nv,a,n,c,xs,ua,un,uc,us,rfl,hD⟩
end Go.Proofs.Ytlpdbkhekbdceaa
