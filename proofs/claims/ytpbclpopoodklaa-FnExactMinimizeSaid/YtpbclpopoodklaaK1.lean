/- Lemmas for the proof of FnExactMaximize, part 17 of 56: no condition of their own. -/
import Derived.Test.YtpbclpopoodklaaT1
import Derived.Test.YtpbclpopoodklaaMark
import Derived.Deep.RegionHeld3
namespace Go.Proofs.Ytpbclpopoodklaa
set_option linter.unusedSimpArgs false
set_option linter.unusedVariables false
open Go.RowKit
structure MarkedG (lo hi:Nat) (w w':World):Prop where
  os:w'.os=w.os
  tape:w'.tape=w.tape
  output:w'.output=w.output
  size:w.heap.size≤w'.heap.size
  out:∀ k,k<w.heap.size→(k<lo∨hi≤k)→w'.heap[k]? = w.heap[k]?
  cell:∀ p v,w.cell? p=some v→∃ v',w'.cell? p=some v'∧CellM v v'
  frz:∀ p,w.cell? p ≠ none→w'.frozen? p=w.frozen? p
theorem cell_lt {w:World} {p:Addr} (h:w.cell? p ≠ none):p.block<w.heap.size:=by
  cases hc:w.cell? p with
  | none=>exact absurd hc h
  | some v=>exact World.block_lt_of_cell? w _ hc
theorem MarkedG.of_marked {lo hi:Nat} {w w':World} (h:Marked lo hi w w'):MarkedG lo hi w w' :=
  ⟨h.os,h.tape,h.output,by rw [h.size];exact Nat.le_refl _,fun k _ hk=>h.out k hk,h.cell,fun p _=>h.frz p⟩
theorem MarkedG.of_below {lo hi:Nat} {w w':World} (h:Below w.heap.size w w'):MarkedG lo hi w w':=by
  refine ⟨h.os,h.tape,h.output,h.size,fun k hk _=>h.block k hk,fun p v hp=>⟨v,?_,.inl rfl⟩,fun p hp=>?_⟩
  · rw [h.cell (World.block_lt_of_cell? w _ hp)];exact hp
  · rw [h.frozen (cell_lt hp)]
theorem MarkedG.trans {lo hi:Nat} {a b c:World} (h:MarkedG lo hi a b) (k:MarkedG lo hi b c):MarkedG lo hi a c:=by
  have hs:=h.size
  refine ⟨k.os.trans h.os,k.tape.trans h.tape,k.output.trans h.output,Nat.le_trans h.size k.size,fun i h1 h2=>(k.out i (by omega) h2).trans (h.out i h1 h2),fun p v hp=>?_,fun p hp=>?_⟩
  · obtain ⟨v',g1,g2⟩:=h.cell p v hp
    obtain ⟨v'',g3,g4⟩:=k.cell p v' g1
    exact ⟨v'',g3,g2.trans g4⟩
  · rw [k.frz p,h.frz p hp]
    cases hc:a.cell? p with
    | none=>exact absurd hc hp
    | some v=>obtain ⟨v',g1,_⟩:=h.cell p v hc;rw [g1];exact fun h=>(by cases h)
theorem MarkedG.drewN {lo hi:Nat} {a b:World} (h:MarkedG lo hi a b) (m:Nat):MarkedG lo hi a (b.drewN m):=h.trans (.of_below (below_drewN (Below.refl _ _) m))
theorem MarkedG.keeps {lo hi lo' hi':Nat} {a b:World} (h:MarkedG lo hi a b) (hd:hi'≤lo∨hi≤lo') (hs:hi'≤a.heap.size):Keeps lo' hi' a b:=fun k h1 h2=>h.out k (by omega) (by omega)
theorem MarkedG.below {lo hi B:Nat} {a b:World} (h:MarkedG lo hi a b) (h1:B≤lo) (h2:B≤a.heap.size):Below B a b:=⟨h.os,h.tape,h.output,h.size,fun k hk=>h.out k (by omega) (.inl (by omega))⟩
theorem MarkedG.wide {lo hi lo' hi':Nat} {a b:World} (h:MarkedG lo hi a b) (h1:lo'≤lo) (h2:hi≤hi'):MarkedG lo' hi' a b:=⟨h.os,h.tape,h.output,h.size,fun k hk hk'=>h.out k hk (by omega),h.cell,h.frz⟩
theorem IntsA.markedG {lo hi lo' hi':Nat} {w w':World} {a:Option Addr} {n c:Nat} {xs:List Int} (h:IntsA true lo hi w a n c xs) (hm:MarkedG lo' hi' w w'):∃ ys,IntsA true lo hi w' a n c ys:=by
  obtain ⟨h1,h2,h3,h4,h5,h6⟩:=h
  by_cases hn:0<n
  · obtain ⟨b,off,ha,hl,hb,hc⟩:=h5 hn
    have each:∀ i,i<n→∃ y:Int,I64 y∧w'.cell? ⟨b,off+i,none⟩=some (.int .i64 y):=by
      intro i hi
      obtain ⟨v',g1,g2⟩:=hm.cell _ _ (hc i hi).1
      rcases g2 with rfl | ⟨_,y,_,rfl,hy⟩
      · exact ⟨ix xs i,by rw [ix_lt (by omega)];exact h4 _ (List.getElem_mem _),g1⟩
      · exact ⟨y,hy,g1⟩
    obtain ⟨y,hy⟩:=Deep.choose_lt each
    refine ⟨(List.range n).map y,by simp,h2,h3,?_,fun _=>⟨b,off,ha,hl,hb,fun i hi=>⟨?_,fun hf=>by rw [hm.frz _ (by rw [(hc i hi).1];exact fun h=>(by cases h))];exact (hc i hi).2 hf⟩⟩,h6⟩
    · intro z hz
      obtain ⟨i,hi,rfl⟩:=List.mem_map.1 hz
      exact (hy i (by simpa using hi)).1
    · rw [(hy i hi).2];simp [ix,hi]
  · exact ⟨xs,h1,h2,h3,h4,fun h=>absurd h hn,h6⟩
def GivesMG (lo hi:Nat) (w:World) (r:Int) (e:Ending) (w':World):Prop:=e=.returned (.int .i64 r)∧MarkedG lo hi w w'
theorem boxG {lo hi:Nat} {w w':World} (h:MarkedG lo hi w w') {g:Nat} (o:Nat) (h1:g<w.heap.size) (h2:g<lo∨hi≤g):w'.cell? ⟨g,o,none⟩=w.cell? ⟨g,o,none⟩:=World.cell?_of_block (w:=w) (h.out g h1 h2)
theorem szSet (w:World) (a:Addr) (v:Value):(w.setCell a v).heap.size=w.heap.size:=by simp [World.setCell]
theorem fset {w:World} {a b:Addr} {v:Value}:(w.setCell a v).frozen? b=w.frozen? b:=by simp
end Go.Proofs.Ytpbclpopoodklaa
