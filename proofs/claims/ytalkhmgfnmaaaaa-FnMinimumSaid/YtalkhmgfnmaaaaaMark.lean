/- Lemmas for the proof of FnMinimum, part 16 of 52: no condition of their own. -/
import Derived.Test.YtalkhmgfnmaaaaaW4
import Derived.Deep.Slices
namespace Go.Proofs.Ytalkhmgfnmaaaaa
set_option linter.unusedSimpArgs false
set_option linter.unusedVariables false
open Go.RowKit
def CellM (v v':Value):Prop:=v'=v∨∃ x x',v=.int .i64 x∧v'=.int .i64 x'∧I64 x'
theorem CellM.trans {a b c:Value} (h:CellM a b) (k:CellM b c):CellM a c:=by
  rcases k with rfl | ⟨x,x',rfl,rfl,hx⟩
  · exact h
  · rcases h with h | ⟨y,y',rfl,_,_⟩
    · exact .inr ⟨x,x',h.symm,rfl,hx⟩
    · exact .inr ⟨y,x',rfl,rfl,hx⟩
structure Marked (lo hi:Nat) (w w':World):Prop where
  os:w'.os=w.os
  tape:w'.tape=w.tape
  output:w'.output=w.output
  size:w'.heap.size=w.heap.size
  out:∀ k,(k<lo∨hi≤k)→w'.heap[k]? = w.heap[k]?
  cell:∀ p v,w.cell? p=some v→∃ v',w'.cell? p=some v'∧CellM v v'
  frz:∀ p,w'.frozen? p=w.frozen? p
theorem Marked.refl (lo hi:Nat) (w:World):Marked lo hi w w:=⟨rfl,rfl,rfl,rfl,fun _ _=>rfl,fun _ v h=>⟨v,h,.inl rfl⟩,fun _=>rfl⟩
theorem Marked.trans {lo hi:Nat} {a b c:World} (h:Marked lo hi a b) (k:Marked lo hi b c):Marked lo hi a c :=
  ⟨k.os.trans h.os,k.tape.trans h.tape,k.output.trans h.output,k.size.trans h.size,fun i hi=>(k.out i hi).trans (h.out i hi),fun p v hp=>by
    obtain ⟨v',g1,g2⟩:=h.cell p v hp
    obtain ⟨v'',g3,g4⟩:=k.cell p v' g1
    exact ⟨v'',g3,g2.trans g4⟩,fun p=>(k.frz p).trans (h.frz p)⟩
theorem Marked.drewN {lo hi:Nat} {a b:World} (h:Marked lo hi a b) (m:Nat):Marked lo hi a (b.drewN m):=⟨h.os,h.tape,h.output,h.size,h.out,h.cell,h.frz⟩
theorem Marked.wide {lo hi lo' hi':Nat} {a b:World} (h:Marked lo hi a b) (h1:lo'≤lo) (h2:hi≤hi'):Marked lo' hi' a b:=⟨h.os,h.tape,h.output,h.size,fun k hk=>h.out k (by omega),h.cell,h.frz⟩
theorem Marked.below {lo hi:Nat} {a b:World} (h:Marked lo hi a b):Below lo a b:=⟨h.os,h.tape,h.output,by rw [h.size];exact Nat.le_refl _,fun k hk=>h.out k (.inl hk)⟩
theorem Marked.keeps {lo hi lo' hi':Nat} {a b:World} (h:Marked lo hi a b) (hd:hi'≤lo∨hi≤lo'):Keeps lo' hi' a b:=fun k h1 h2=>h.out k (by omega)
def marks (k:Int):Nat→List Int
  | 0=>[]
  | n+1=>marks k n ++ [k+n]
theorem CellM.slice {a:Option Addr} {n c:Nat} {v:Value} (h:CellM (.slice a n c) v):v=.slice a n c:=by
  rcases h with h | ⟨_,_,h,_⟩
  · exact h
  · cases h
end Go.Proofs.Ytalkhmgfnmaaaaa
