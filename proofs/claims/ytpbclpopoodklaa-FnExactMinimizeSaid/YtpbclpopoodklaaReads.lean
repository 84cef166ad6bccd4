/- Lemmas for the proof of FnExactMaximize, part 54 of 56: no condition of their own. -/
import Derived.Test.YtpbclpopoodklaaBase
import Derived.ProofKit
import Derived.OpenShut
import Derived.ShutString
import Derived.ChangeOld
import Derived.Below
import Derived.Deep.Slices
namespace Go.Proofs.Ytpbclpopoodklaa
set_option linter.unusedSimpArgs false
set_option linter.unusedVariables false
open Go.ChangeShapes Go.WideShapes Go.ChangeAt Go.RowKit Go.Deep
theorem own:ownKnob Try.prog.godebug=none:=by kernel_rfl
theorem laidOut:laidOutB Try.prog=true:=by kernel_rfl
def ReadsBy {α:Type} (R:Rep α) (t:TypeId):Prop :=
  ∀ {H:Type} (enc:TypeId×Value→H) (W:World) (fuel:Nat) (cs:List Value) (x:DataW H×List MemPlace),DataW.trod enc Try.prog W 0 (fun _=>true) true fuel t cs=some x→∃ y,R false 0 W.heap.size W cs y
theorem cells_at {w:World} {base:Nat} {a:Addr} {k:Nat} {cs:List Value} (h:w.cells? base a k=some cs):cs.length=k∧∀ j,j<k→w.cell? (a.add j)=some (cs.getD j undef):=by
  obtain ⟨_,hlen,hc⟩:=World.cells?_some h
  exact ⟨hlen,fun j hj=>by
    have:=hc j (by omega)
    simpa [List.getD,List.getElem?_eq_getElem (show j<cs.length by omega)] using this⟩
theorem reads_slice {α:Type} {R:Rep α} {t e k:Nat} (ht:Try.prog.underlying t=some (.slice e)) (hk:Try.prog.cellsOf e=k) (hk0:0<k) (hR:ReadsBy R e) :
    ∀ {H:Type} (enc:TypeId×Value→H) (W:World) (fuel:Nat) (cs:List Value) (x:DataW H×List MemPlace),DataW.trod enc Try.prog W 0 (fun _=>true) true fuel t cs=some x →
      ∃ a n c xs,cs=[.slice a n c]∧SlA k R false 0 W.heap.size W a n c xs:=by
  intro H enc W fuel cs x h
  rcases open_slice ht h with ⟨hcs,_⟩ | ⟨a,len,cap,m,n,D,Pl,rfl,_,hl,hm,hmm,_,hx⟩
  · exact ⟨none,0,0,[],hcs,rfl,Nat.le_refl _,by simp [maxLen],fun h=>by omega,fun _=>rfl⟩
  · simp only [if_true] at hmm
    subst hmm
    rw [hk] at hx
    have each:∀ i,i<m→∃ y:List Value×α,y.1.length=k∧R false 0 W.heap.size W y.1 y.2∧∀ j,j<k→W.cell? ((a.add (i*k)).add j)=some (y.1.getD j undef):=by
      intro i hi
      obtain ⟨cs',h1,h2⟩:=hx i hi
      obtain ⟨y,hy⟩:=hR enc W n cs' _ h2
      obtain ⟨g1,g2⟩:=cells_at h1
      exact ⟨(cs',y),g1,hy,g2⟩
    refine ⟨some a,len,m,?_⟩
    by_cases hm0:m=0
    · refine ⟨[],rfl,?_,hl,hm,fun h=>by omega,fun h=>(by cases h)⟩
      simp;omega
    · haveI:Inhabited α:=⟨(Classical.choose (each 0 (by omega))).2⟩
      obtain ⟨y,hy⟩:=choose_lt each
      obtain ⟨b,off,spot⟩:=a
      have h1:=(hy 0 (by omega)).2.2 0 hk0
      have hspot:spot=none:=by
        cases spot with
        | none=>rfl
        | some s=>simp [Addr.add,World.cell?] at h1;split at h1 <;> simp at h1
      subst hspot
      have hblk:=World.block_lt_of_cell? W _ h1
      refine ⟨(List.range len).map fun i=>(y i).2,rfl,by simp,hl,hm,fun hn=>⟨b,off,rfl,Nat.zero_le _,by simpa [Addr.add] using hblk,fun i hi=>?_⟩,fun h=>(by cases h)⟩
      obtain ⟨g1,g2,g3⟩:=hy i (by omega)
      refine ⟨(y i).1,(y i).2,g1,by simp [hi],g2,fun j hj=>⟨?_,fun h=>(by cases h)⟩⟩
      have:=g3 j hj
      rwa [Addr.add_lit,Addr.add_lit] at this
end Go.Proofs.Ytpbclpopoodklaa
