/- Lemmas for the proof of FnExactMaximize, part 2 of 56: no condition of their own. -/
import Derived.Test.YtpbclpopoodklaaBase
import Derived.Deep.RegionLaw
namespace Go.Proofs.Ytpbclpopoodklaa
set_option linter.unusedSimpArgs false
set_option linter.unusedVariables false
open Go.RowKit
section
variable {k:Nat} {lo hi:Nat} {w w':World} {a:Option Addr} {n c:Nat} {vs:List Value}
def FlatA (k lo hi:Nat) (w:World) (a:Option Addr) (n c:Nat) (vs:List Value):Prop :=
  vs.length=n*k∧n≤c∧c≤maxLen∧(∀ u∈vs,u.oneCell'=true) ∧
  (0<n→∃ b off,a=some ⟨b,off,none⟩∧lo≤b∧b<hi∧∀ i u,vs[i]? = some u→w.cell? ⟨b,off+i,none⟩=some u) ∧
  (a=none→c=0)
theorem FlatA.len (h:FlatA k lo hi w a n c vs):vs.length=n*k:=h.1
theorem FlatA.small (h:FlatA k lo hi w a n c vs):n≤9223372036854775807:=by
  have h1:=h.2.1;have h2:=h.2.2.1;unfold maxLen at h2;omega
theorem FlatA.keep (h:FlatA k lo hi w a n c vs) (hk:Keeps lo hi w w'):FlatA k lo hi w' a n c vs:=by
  obtain ⟨h1,h2,h3,h4,h5,h6⟩:=h
  refine ⟨h1,h2,h3,h4,fun hn=>?_,h6⟩
  obtain ⟨b,off,ha,hl,hb,hc⟩:=h5 hn
  exact ⟨b,off,ha,hl,hb,fun i u hu=>by rw [World.cell?_of_block (w:=w) (hk b hl hb)];exact hc i u hu⟩
theorem FlatA.wide {lo' hi':Nat} (h:FlatA k lo hi w a n c vs) (h1:lo'≤lo) (h2:hi≤hi'):FlatA k lo' hi' w a n c vs:=by
  obtain ⟨g1,g2,g3,g4,g5,g6⟩:=h
  refine ⟨g1,g2,g3,g4,fun hn=>?_,g6⟩
  obtain ⟨b,off,ha,hl,hb,hc⟩:=g5 hn
  exact ⟨b,off,ha,by omega,by omega,hc⟩
theorem FlatA.drewN (h:FlatA k lo hi w a n c vs) (m:Nat):FlatA k lo hi (w.drewN m) a n c vs:=h
theorem FlatA.open (h:FlatA k lo hi w a n c vs) (hn:0<n):∃ b off,a=some ⟨b,off,none⟩∧lo≤b∧b<hi∧∀ i u,vs[i]? = some u→w.cell? ⟨b,off+i,none⟩=some u:=h.2.2.2.2.1 hn
end
def OwnF (e:TypeId) (k base:Nat) (w:World) (a:Option Addr) (n c:Nat) (vs:List Value):Prop:=w.ownsRow base e k (.slice a n c) n vs∧∀ u∈vs,u.oneCell'=true
theorem OwnF.len {e:TypeId} {k base:Nat} {w:World} {a:Option Addr} {n c:Nat} {vs:List Value} (h:OwnF e k base w a n c vs):vs.length=n*k:=h.1.1
theorem OwnF.flat {e:TypeId} {k base:Nat} {w:World} {a:Option Addr} {n c:Nat} {vs:List Value} (h:OwnF e k base w a n c vs):FlatA k base w.heap.size w a n c vs:=by
  have hlen:=h.len
  obtain ⟨ho,h1c⟩:=h
  have ho':=ho
  obtain ⟨h1,h2⟩:=ho
  rcases h2 with ⟨h2,h3⟩ | ⟨g,cap,cur,hv,hb,hg,hnc,hcm,hcs,htake⟩
  · simp only [Value.slice.injEq] at h2
    obtain ⟨rfl,rfl,rfl⟩:=h2
    exact ⟨hlen,Nat.zero_le _,by simp [maxLen],h1c,fun h=>by omega,fun _=>rfl⟩
  · simp only [Value.slice.injEq] at hv
    obtain ⟨rfl,_,rfl⟩:=hv
    refine ⟨hlen,hnc,hcm,h1c,fun _=>⟨g,0,rfl,hb,(Array.getElem?_eq_some_iff.1 hg).1,fun i u hu=>?_⟩,fun h=>(by cases h)⟩
    have h5:=ho'.cells (g:=g) rfl i u hu
    rwa [Addr.add_lit] at h5
theorem OwnF.free {e:TypeId} {k base:Nat} {w:World} {g n c:Nat} {vs:List Value} (h:OwnF e k base w (some ⟨g,0,none⟩) n c vs) (i:Nat):w.frozen? ⟨g,i,none⟩=false:=by
  rcases h.1.2 with ⟨h2,h3⟩ | ⟨g',cap,cur,hv,hb,hg,_⟩
  · simp at h2
  · simp only [Value.slice.injEq,Option.some.injEq,Addr.mk.injEq,and_true] at hv
    obtain ⟨rfl,_,rfl⟩:=hv
    exact frozen_of_row w g i cur _ hg
theorem OwnF.head {e:TypeId} {k base:Nat} {w:World} {a:Option Addr} {n c:Nat} {vs:List Value} (h:OwnF e k base w a n c vs) (hn:0<n):∃ g,a=some ⟨g,0,none⟩∧base≤g∧g<w.heap.size:=by
  rcases h.1.2 with ⟨h2,h3⟩ | ⟨g',cap,cur,hv,hb,hg,_⟩
  · omega
  · simp only [Value.slice.injEq] at hv
    exact ⟨g',hv.1,hb,(Array.getElem?_eq_some_iff.1 hg).1⟩
theorem OwnF.low {e:TypeId} {k base base':Nat} {w:World} {a:Option Addr} {n c:Nat} {vs:List Value} (h:OwnF e k base w a n c vs) (hb:base'≤base):OwnF e k base' w a n c vs:=by
  obtain ⟨⟨h1,h2⟩,h64⟩:=h
  refine ⟨⟨h1,?_⟩,h64⟩
  rcases h2 with h2 | ⟨g,cap,cur,hv,hb',rest⟩
  · exact .inl h2
  · exact .inr ⟨g,cap,cur,hv,by omega,rest⟩
theorem OwnF.keep {e:TypeId} {k base:Nat} {w w':World} {a:Option Addr} {n c:Nat} {vs:List Value} (h:OwnF e k base w a n c vs) (hk:Keeps base w.heap.size w w'):OwnF e k base w' a n c vs:=by
  obtain ⟨⟨h1,h2⟩,h64⟩:=h
  refine ⟨⟨h1,?_⟩,h64⟩
  rcases h2 with h2 | ⟨g,cap,cur,hv,hb,hg,rest⟩
  · exact .inl h2
  · exact .inr ⟨g,cap,cur,hv,hb,by rw [hk g hb (Array.getElem?_eq_some_iff.1 hg).1];exact hg,rest⟩
theorem OwnF.alloc {e:TypeId} {k base:Nat} {w:World} {a:Option Addr} {n c:Nat} {vs:List Value} (h:OwnF e k base w a n c vs) (o:Obj):OwnF e k base (w.alloc o) a n c vs:=⟨h.1.alloc o,h.2⟩
theorem OwnF.drewN {e:TypeId} {k base:Nat} {w:World} {a:Option Addr} {n c:Nat} {vs:List Value} (h:OwnF e k base w a n c vs) (m:Nat):OwnF e k base (w.drewN m) a n c vs:=h
theorem ownF_nil (e:TypeId) (k:Nat) (w:World) (base:Nat):OwnF e k base w none 0 0 []:=⟨World.ownsRow_nil ..,fun _ h=>(by cases h)⟩
structure ElemF (t e:TypeId) (k bytes:Nat):Prop where
  under:Try.prog.underlying t=some (.slice e)
  info:∃ i z,Try.prog.info? e=some i∧i.zero=some z∧i.size=k∧i.bytes=bytes∧z.cells.size=k
  small:bytes≤4096
  pos:0<k
theorem run_append_flat {t e k bytes:Nat} (ht:ElemF t e k bytes) {lo hi:Nat} {w:World} (ty:TypeId) (base:Nat) (a1:Option Addr) (n1 c1:Nat) (vs:List Value) (hown:OwnF e k base w a1 n1 c1 vs)
    (ao:Option Addr) (m c:Nat) (us:List Value) (hI:FlatA k lo hi w ao m c us) (hb:n1+m≤16777216) (hbase:base≤w.heap.size) :
    ∃ a' c' w',(Builtin.append_ #[t,t] ty #[.slice a1 n1 c1,.slice ao m c]).run Try.prog w=.ok (.slice a' (n1+m) c') w'∧OwnF e k base w' a' (n1+m) c' (vs ++ us)∧w.grownBy w' (Value.slice a1 n1 c1).ownBlock:=by
  obtain ⟨i0,z,hi0,hz0,hz1,hz2,hz3⟩:=ht.info
  have h1c:∀ u∈vs ++ us,u.oneCell'=true:=fun u hu=>(List.mem_append.1 hu).elim (hown.2 u) (hI.2.2.2.1 u)
  have hlen:=hI.len
  cases ao with
  | none =>
    have hc0:=hI.2.2.2.2.2 rfl
    have hm0:m=0:=by have:=hI.2.1;omega
    subst hc0;subst hm0
    have hys:us=[]:=List.eq_nil_of_length_eq_zero (by simpa using hlen)
    subst hys
    exact ⟨a1,c1,w,run_append_owned_none (P:=Try.prog) (w:=w) base t ty e i0 k ht.under hi0 _ n1 _ hown.1,by simpa using hown,World.grownBy.refl w _⟩
  | some ad =>
    obtain ⟨v',w',hr,hown',hgrow,_⟩:=run_append_own (P:=Try.prog) w base t ty e i0 z k bytes ht.under hi0 hz0 hz1 hz2 hz3 ht.pos _ n1 _ hown.1 ad m c us hlen (fun j u hj=>by
      have hjm:j<m*k:=by have:=(List.getElem?_eq_some_iff.1 hj).1;omega
      have hm0:0<m:=by
        rcases Nat.eq_zero_or_pos m with h | h
        · subst h;simp at hjm
        · exact h
      obtain ⟨b,off,hab,_,_,hcell⟩:=hI.open hm0
      obtain rfl:ad=⟨b,off,none⟩:=by simpa using hab
      rw [Addr.add_lit];exact hcell j u hj) hI.2.2.2.1 (by unfold maxLen;omega) (by
        have h1:=ht.small
        have h2:(n1+m)*bytes≤16777216*4096:=Nat.mul_le_mul hb h1
        omega) hbase
    obtain ⟨a',c',rfl⟩:∃ a' c',v'=.slice a' (n1+m) c':=by
      rcases hown'.2 with ⟨rfl,hz⟩ | ⟨g,cap,cur,rfl,_⟩
      · exact ⟨none,0,by rw [hz]⟩
      · exact ⟨_,_,rfl⟩
    exact ⟨a',c',w',hr,⟨hown',h1c⟩,hgrow⟩
end Go.Proofs.Ytpbclpopoodklaa
