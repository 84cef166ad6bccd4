/- Lemmas for the proof of FnExactMaximize, part 16 of 56: no condition of their own. -/
import Derived.Test.YtpbclpopoodklaaW4
import Derived.Deep.Slices
namespace Go.Proofs.Ytpbclpopoodklaa
set_option linter.unusedSimpArgs false
set_option linter.unusedVariables false
open Go.RowKit
theorem cset_same {w:World} {a:Addr} {v u:Value} (h:w.cell? a=some u):(w.setCell a v).cell? a=some v:=by
  apply World.cell?_setCell_same <;> assumption
theorem cset_other {w:World} {a b:Addr} {v:Value} (h:a ≠ b):(w.setCell a v).cell? b=w.cell? b:=by
  apply World.cell?_setCell_other <;> assumption
def CellM (v v':Value):Prop:=v'=v∨∃ x x',v=.int .i64 x∧v'=.int .i64 x'∧I64 x'
theorem CellM.trans {a b c:Value} (h:CellM a b) (k:CellM b c):CellM a c:=by
  rcases k with rfl | ⟨x,x',rfl,rfl,hx⟩
  · exact h
  · rcases h with h | ⟨y,y',rfl,_,_⟩
    · exact .inr ⟨x,x',h.symm,rfl,hx⟩
    · exact .inr ⟨y,x',rfl,rfl,hx⟩
structure Marked (lo hi:Nat) (w w':World):Prop where
  os:w'.os=w.os
  tape:w'.tape=w.tape
  output:w'.output=w.output
  size:w'.heap.size=w.heap.size
  out:∀ k,(k<lo∨hi≤k)→w'.heap[k]? = w.heap[k]?
  cell:∀ p v,w.cell? p=some v→∃ v',w'.cell? p=some v'∧CellM v v'
  frz:∀ p,w'.frozen? p=w.frozen? p
theorem Marked.refl (lo hi:Nat) (w:World):Marked lo hi w w:=⟨rfl,rfl,rfl,rfl,fun _ _=>rfl,fun _ v h=>⟨v,h,.inl rfl⟩,fun _=>rfl⟩
theorem Marked.trans {lo hi:Nat} {a b c:World} (h:Marked lo hi a b) (k:Marked lo hi b c):Marked lo hi a c :=
  ⟨k.os.trans h.os,k.tape.trans h.tape,k.output.trans h.output,k.size.trans h.size,fun i hi=>(k.out i hi).trans (h.out i hi),fun p v hp=>by
    obtain ⟨v',g1,g2⟩:=h.cell p v hp
    obtain ⟨v'',g3,g4⟩:=k.cell p v' g1
    exact ⟨v'',g3,g2.trans g4⟩,fun p=>(k.frz p).trans (h.frz p)⟩
theorem Marked.drewN {lo hi:Nat} {a b:World} (h:Marked lo hi a b) (m:Nat):Marked lo hi a (b.drewN m):=⟨h.os,h.tape,h.output,h.size,h.out,h.cell,h.frz⟩
theorem Marked.wide {lo hi lo' hi':Nat} {a b:World} (h:Marked lo hi a b) (h1:lo'≤lo) (h2:hi≤hi'):Marked lo' hi' a b:=⟨h.os,h.tape,h.output,h.size,fun k hk=>h.out k (by omega),h.cell,h.frz⟩
theorem Marked.below {lo hi:Nat} {a b:World} (h:Marked lo hi a b):Below lo a b:=⟨h.os,h.tape,h.output,by rw [h.size];exact Nat.le_refl _,fun k hk=>h.out k (.inl hk)⟩
theorem Marked.keeps {lo hi lo' hi':Nat} {a b:World} (h:Marked lo hi a b) (hd:hi'≤lo∨hi≤lo'):Keeps lo' hi' a b:=fun k h1 h2=>h.out k (by omega)
theorem marked_set {lo hi:Nat} {w:World} {b o:Nat} {x x':Int} (h:w.cell? ⟨b,o,none⟩=some (.int .i64 x)) (h1:lo≤b) (h2:b<hi) (hx:I64 x'):Marked lo hi w (w.setCell ⟨b,o,none⟩ (.int .i64 x')):=by
  refine ⟨rfl,rfl,rfl,by simp [World.setCell],fun k hk=>?_,fun p v hp=>?_,fun p=>by simp⟩
  · rw [heap_setCell_other w ⟨b,o,none⟩ k _ (by show k ≠ b;omega)]
  · by_cases e:(⟨b,o,none⟩:Addr)=p
    · subst e
      rw [h] at hp
      cases hp
      exact ⟨_,cset_same h,.inr ⟨x,x',rfl,rfl,hx⟩⟩
    · exact ⟨v,by rw [cset_other e];exact hp,.inl rfl⟩
theorem IntsA.marked {lo hi lo' hi':Nat} {w w':World} {a:Option Addr} {n c:Nat} {xs:List Int} (h:IntsA true lo hi w a n c xs) (hm:Marked lo' hi' w w'):∃ ys,IntsA true lo hi w' a n c ys:=by
  obtain ⟨h1,h2,h3,h4,h5,h6⟩:=h
  by_cases hn:0<n
  · obtain ⟨b,off,ha,hl,hb,hc⟩:=h5 hn
    have each:∀ i,i<n→∃ y:Int,I64 y∧w'.cell? ⟨b,off+i,none⟩=some (.int .i64 y):=by
      intro i hi
      obtain ⟨v',g1,g2⟩:=hm.cell _ _ (hc i hi).1
      rcases g2 with rfl | ⟨_,y,_,rfl,hy⟩
      · exact ⟨ix xs i,by rw [ix_lt (by omega)];exact h4 _ (List.getElem_mem _),g1⟩
      · exact ⟨y,hy,g1⟩
    obtain ⟨y,hy⟩:=Deep.choose_lt each
    refine ⟨(List.range n).map y,by simp,h2,h3,?_,fun _=>⟨b,off,ha,hl,hb,fun i hi=>⟨?_,fun hf=>by rw [hm.frz];exact (hc i hi).2 hf⟩⟩,h6⟩
    · intro z hz
      obtain ⟨i,hi,rfl⟩:=List.mem_map.1 hz
      exact (hy i (by simpa using hi)).1
    · rw [(hy i hi).2];simp [ix,hi]
  · exact ⟨xs,h1,h2,h3,h4,fun h=>absurd h hn,h6⟩
def marks (k:Int):Nat→List Int
  | 0=>[]
  | n+1=>marks k n ++ [k+n]
theorem CellM.slice {a:Option Addr} {n c:Nat} {v:Value} (h:CellM (.slice a n c) v):v=.slice a n c:=by
  rcases h with h | ⟨_,_,h,_⟩
  · exact h
  · cases h
end Go.Proofs.Ytpbclpopoodklaa
