/- Lemmas for the proof of FnExactMaximize, part 44 of 56: no condition of their own. -/
import Derived.Test.YtpbclpopoodklaaZD
namespace Go.Proofs.Ytpbclpopoodklaa
set_option linter.unusedSimpArgs false
set_option linter.unusedVariables false
open Go.RowKit
def cellsC (lo:Nat) (w:World):Nat→Nat→Prop:=fun b i=>lo≤b∧b<w.heap.size∧w.cell? ⟨b,i,none⟩ ≠ none
theorem no_tag {lo:Nat} {w:World} {b:Nat}:¬ Tag (cellsC lo w) b:=by
  rintro ⟨N,h⟩
  have h0:=(h N (Nat.le_refl _)).2.1
  obtain ⟨o,ho⟩:∃ o,w.heap[b]? = some o:=⟨_,Array.getElem?_eq_getElem h0⟩
  cases o with
  | cells arr e fz =>
    have h1:=(h (N+arr.size) (by omega)).2.2
    simp only [World.cell?,ho] at h1
    simp at h1
  | _ =>
    have h1:=(h N (Nat.le_refl _)).2.2
    simp [World.cell?,ho] at h1
def Out (C0:Nat→Nat→Prop) (X:AV) (w:World) (e:Ending) (w':World):Prop :=
  ∃ v G',e=.returned v∧CV G' w' X v∧Below w.heap.size w w'∧(∀ b i,G'.C b i→b<w'.heap.size)∧(∀ b i,G'.C b i→b<w.heap.size→C0 b i)∧(∀ b i,G'.C b i→w.heap.size≤b→w'.frozen? ⟨b,i,none⟩=false)
theorem afn_calls {f:FuncId} {args:List AV} {X:AV} (h:AFn f args [] (fun r os=>r=X∧os=[])) {w:World} {C0:Nat→Nat→Prop} (hC0:∀ b i,C0 b i→b<w.heap.size) {vs:List Value} (hv:∀ G:Gh,G.C=C0→CVs G w args vs):Calls Try.prog f vs.toArray w (Out C0 X w):=by
  refine (h.2 w ⟨C0,fun _=>.slice none 0 0,fun _=>0,fun _=>0,fun _=>0⟩ vs (hv _ rfl) hC0 (fun i l hl=>by simp at hl) (fun i j hi=>absurd hi (Nat.not_lt_zero _))).mono ?_
  rintro e w' ⟨v,r,os,G',rfl,hp⟩
  obtain ⟨rfl,rfl⟩:=hp.post
  exact ⟨v,G',rfl,hp.res,⟨hp.fr.os,hp.fr.tape,hp.fr.output,hp.fr.size,fun k hk=>hp.fr.block k hk (fun ⟨i,hi,_⟩=>absurd hi (Nat.not_lt_zero _))⟩,hp.cs,hp.lc,hp.uf⟩
end Go.Proofs.Ytpbclpopoodklaa
