/- Lemmas for the proof of FnExactMaximize, part 47 of 56: no condition of their own. -/
import Derived.Test.YtpbclpopoodklaaBase
import Derived.Deep.RegionLaw
import Derived.Deep.AppendLies
namespace Go.Proofs.Ytpbclpopoodklaa
set_option linter.unusedSimpArgs false
set_option linter.unusedVariables false
open Go.RowKit
def ValsA (lo hi:Nat) (w:World) (a:Option Addr) (n c:Nat) (vs:List Value):Prop :=
  vs.length=n∧n≤c∧c≤maxLen∧(∀ u∈vs,u.oneCell'=true) ∧
  (0<n→∃ b off,a=some ⟨b,off,none⟩∧lo≤b∧b<hi∧∀ i u,vs[i]? = some u→w.cell? ⟨b,off+i,none⟩=some u)∧(a=none→c=0)
section
variable {lo hi:Nat} {w w':World} {a:Option Addr} {n c:Nat} {vs:List Value}
theorem ValsA.len (h:ValsA lo hi w a n c vs):vs.length=n:=h.1
theorem ValsA.small (h:ValsA lo hi w a n c vs):n≤9223372036854775807:=by
  have h1:=h.2.1;have h2:=h.2.2.1;unfold maxLen at h2;omega
theorem ValsA.keep (h:ValsA lo hi w a n c vs) (hk:Keeps lo hi w w'):ValsA lo hi w' a n c vs:=by
  obtain ⟨h1,h2,h3,h4,h5,h6⟩:=h
  refine ⟨h1,h2,h3,h4,fun hn=>?_,h6⟩
  obtain ⟨b,off,ha,hl,hb,hc⟩:=h5 hn
  exact ⟨b,off,ha,hl,hb,fun i u hu=>by rw [World.cell?_of_block (w:=w) (hk b hl hb)];exact hc i u hu⟩
theorem ValsA.wide {lo' hi':Nat} (h:ValsA lo hi w a n c vs) (h1:lo'≤lo) (h2:hi≤hi'):ValsA lo' hi' w a n c vs:=by
  obtain ⟨g1,g2,g3,g4,g5,g6⟩:=h
  refine ⟨g1,g2,g3,g4,fun hn=>?_,g6⟩
  obtain ⟨b,off,ha,hl,hb,hc⟩:=g5 hn
  exact ⟨b,off,ha,by omega,by omega,hc⟩
theorem ValsA.drewN (h:ValsA lo hi w a n c vs) (k:Nat):ValsA lo hi (w.drewN k) a n c vs:=h
theorem ValsA.open (h:ValsA lo hi w a n c vs) (hn:0<n):∃ b off,a=some ⟨b,off,none⟩∧lo≤b∧b<hi∧∀ i u,vs[i]? = some u→w.cell? ⟨b,off+i,none⟩=some u:=h.2.2.2.2.1 hn
end
def OwnV (e:TypeId) (base:Nat) (w:World) (a:Option Addr) (n c:Nat) (vs:List Value):Prop:=w.ownsRow base e 1 (.slice a n c) n vs∧∀ u∈vs,u.oneCell'=true
theorem OwnV.len {e:TypeId} {base:Nat} {w:World} {a:Option Addr} {n c:Nat} {vs:List Value} (h:OwnV e base w a n c vs):vs.length=n:=by
  have:=h.1.1;omega
theorem OwnV.vals {e:TypeId} {base:Nat} {w:World} {a:Option Addr} {n c:Nat} {vs:List Value} (h:OwnV e base w a n c vs):ValsA base w.heap.size w a n c vs:=by
  have hlen:=h.len
  obtain ⟨ho,h1c⟩:=h
  have ho':=ho
  obtain ⟨h1,h2⟩:=ho
  rcases h2 with ⟨h2,h3⟩ | ⟨g,cap,cur,hv,hb,hg,hnc,hcm,hcs,htake⟩
  · simp only [Value.slice.injEq] at h2
    obtain ⟨rfl,rfl,rfl⟩:=h2
    exact ⟨hlen,Nat.zero_le _,by simp [maxLen],h1c,fun h=>by omega,fun _=>rfl⟩
  · simp only [Value.slice.injEq] at hv
    obtain ⟨rfl,_,rfl⟩:=hv
    refine ⟨hlen,hnc,hcm,h1c,fun _=>⟨g,0,rfl,hb,(Array.getElem?_eq_some_iff.1 hg).1,fun i u hu=>?_⟩,fun h=>(by cases h)⟩
    have h5:=ho'.cells (g:=g) rfl i u hu
    rwa [Addr.add_lit] at h5
theorem OwnV.low {e:TypeId} {base base':Nat} {w:World} {a:Option Addr} {n c:Nat} {vs:List Value} (h:OwnV e base w a n c vs) (hb:base'≤base):OwnV e base' w a n c vs:=by
  obtain ⟨⟨h1,h2⟩,h64⟩:=h
  refine ⟨⟨h1,?_⟩,h64⟩
  rcases h2 with h2 | ⟨g,cap,cur,hv,hb',rest⟩
  · exact .inl h2
  · exact .inr ⟨g,cap,cur,hv,by omega,rest⟩
theorem OwnV.keep {e:TypeId} {base:Nat} {w w':World} {a:Option Addr} {n c:Nat} {vs:List Value} (h:OwnV e base w a n c vs) (hk:Keeps base w.heap.size w w'):OwnV e base w' a n c vs:=by
  obtain ⟨⟨h1,h2⟩,h64⟩:=h
  refine ⟨⟨h1,?_⟩,h64⟩
  rcases h2 with h2 | ⟨g,cap,cur,hv,hb,hg,rest⟩
  · exact .inl h2
  · exact .inr ⟨g,cap,cur,hv,hb,by rw [hk g hb (Array.getElem?_eq_some_iff.1 hg).1];exact hg,rest⟩
theorem OwnV.alloc {e:TypeId} {base:Nat} {w:World} {a:Option Addr} {n c:Nat} {vs:List Value} (h:OwnV e base w a n c vs) (o:Obj):OwnV e base (w.alloc o) a n c vs:=⟨h.1.alloc o,h.2⟩
theorem OwnV.drewN {e:TypeId} {base:Nat} {w:World} {a:Option Addr} {n c:Nat} {vs:List Value} (h:OwnV e base w a n c vs) (k:Nat):OwnV e base (w.drewN k) a n c vs:=h
structure Elem (t e:TypeId) (bytes:Nat):Prop where
  under:Try.prog.underlying t=some (.slice e)
  info:∃ i z,Try.prog.info? e=some i∧i.zero=some z∧i.size=1∧i.bytes=bytes∧z.cells.size=1
  small:bytes≤4096
end Go.Proofs.Ytpbclpopoodklaa
