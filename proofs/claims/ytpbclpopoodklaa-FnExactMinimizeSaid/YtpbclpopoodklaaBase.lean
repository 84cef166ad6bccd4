/- Lemmas for the proof of FnExactMaximize, part 1 of 56: no condition of their own. -/
import Derived.Test.YtpbclpopoodklaaRows
import Derived.WalkKit
import Derived.WalkSpells
import Derived.WalkLawsBesides
import Derived.Deep.QuietTactic
import Derived.BigQuiet
import Derived.Deep.LoopGhost
import Derived.Laws.AppendOwnNone
namespace Go.Proofs.Ytpbclpopoodklaa
set_option linter.unusedSimpArgs false
set_option linter.unusedVariables false
open Go.RowKit
theorem hid {p:Prop} (h:p):Hid p:=h
def ix (xs:List Int) (i:Nat):Int:=xs.getD i 0
theorem ix_lt {xs:List Int} {i:Nat} (h:i<xs.length):ix xs i=xs[i]:=by simp [ix,h]
def I64 (x:Int):Prop:=-9223372036854775808≤x∧x≤9223372036854775807
def IntsA (fz:Bool) (lo hi:Nat) (w:World) (a:Option Addr) (n c:Nat) (xs:List Int):Prop :=
  xs.length=n∧n≤c∧c≤maxLen∧(∀ x∈xs,I64 x) ∧
  (0<n→∃ b off,a=some ⟨b,off,none⟩∧lo≤b∧b<hi∧∀ i,i<n→w.cell? ⟨b,off+i,none⟩=some (.int .i64 (ix xs i))∧(fz=true→w.frozen? ⟨b,off+i,none⟩=false)) ∧
  (a=none→c=0)
theorem IntsA.len {fz:Bool} {lo hi:Nat} {w:World} {a:Option Addr} {n c:Nat} {xs:List Int} (h:IntsA fz lo hi w a n c xs):xs.length=n:=h.1
theorem IntsA.small {fz:Bool} {lo hi:Nat} {w:World} {a:Option Addr} {n c:Nat} {xs:List Int} (h:IntsA fz lo hi w a n c xs):n≤9223372036854775807:=by
  have h1:=h.2.1;have h2:=h.2.2.1;unfold maxLen at h2;omega
theorem IntsA.at {fz:Bool} {lo hi:Nat} {w:World} {a:Option Addr} {n c:Nat} {xs:List Int} (h:IntsA fz lo hi w a n c xs) {i:Nat} (hi':i<n):I64 (ix xs i):=by
  have:=h.1;rw [ix_lt (by omega)];exact h.2.2.2.1 _ (List.getElem_mem _)
theorem IntsA.open {fz:Bool} {lo hi:Nat} {w:World} {a:Option Addr} {n c:Nat} {xs:List Int} (h:IntsA fz lo hi w a n c xs) (hn:0<n) :
    ∃ b off,a=some ⟨b,off,none⟩∧lo≤b∧b<hi∧(∀ i,i<n→w.cell? ⟨b,off+i,none⟩=some (.int .i64 (ix xs i)))∧(fz=true→∀ i,i<n→w.frozen? ⟨b,off+i,none⟩=false):=by
  obtain ⟨b,off,h1,h2,h3,h4⟩:=h.2.2.2.2.1 hn
  exact ⟨b,off,h1,h2,h3,fun i hi=>(h4 i hi).1,fun hf i hi=>(h4 i hi).2 hf⟩
def Keeps (lo hi:Nat) (w w':World):Prop:=∀ k,lo≤k→k<hi→w'.heap[k]? = w.heap[k]?
theorem Keeps.refl (lo hi:Nat) (w:World):Keeps lo hi w w:=fun _ _ _=>rfl
theorem Keeps.trans {lo hi:Nat} {a b c:World} (h:Keeps lo hi a b) (k:Keeps lo hi b c):Keeps lo hi a c:=fun i h1 h2=>(k i h1 h2).trans (h i h1 h2)
theorem Keeps.of_below {B lo hi:Nat} {w w':World} (h:Below B w w') (hh:hi≤B):Keeps lo hi w w':=fun k _ h2=>h.block k (by omega)
theorem Keeps.mono {lo hi lo' hi':Nat} {w w':World} (h:Keeps lo hi w w') (h1:lo≤lo') (h2:hi'≤hi):Keeps lo' hi' w w':=fun k a b=>h k (by omega) (by omega)
theorem Keeps.drewN (lo hi:Nat) (w:World) (n:Nat):Keeps lo hi w (w.drewN n):=fun _ _ _=>rfl
theorem IntsA.keep {fz:Bool} {lo hi:Nat} {w w':World} {a:Option Addr} {n c:Nat} {xs:List Int} (h:IntsA fz lo hi w a n c xs) (hk:Keeps lo hi w w'):IntsA fz lo hi w' a n c xs:=by
  obtain ⟨h1,h2,h3,h4,h5,h6⟩:=h
  refine ⟨h1,h2,h3,h4,fun hn=>?_,h6⟩
  obtain ⟨b,off,ha,hl,hb,hc⟩:=h5 hn
  refine ⟨b,off,ha,hl,hb,fun i hi=>⟨?_,fun hf=>?_⟩⟩
  · rw [World.cell?_of_block (w:=w) (hk b hl hb)];exact (hc i hi).1
  · rw [World.frozen?_of_block (w:=w) (hk b hl hb)];exact (hc i hi).2 hf
theorem IntsA.wide {fz:Bool} {lo hi lo' hi':Nat} {w:World} {a:Option Addr} {n c:Nat} {xs:List Int} (h:IntsA fz lo hi w a n c xs) (h1:lo'≤lo) (h2:hi≤hi'):IntsA fz lo' hi' w a n c xs:=by
  obtain ⟨g1,g2,g3,g4,g5,g6⟩:=h
  refine ⟨g1,g2,g3,g4,fun hn=>?_,g6⟩
  obtain ⟨b,off,ha,hl,hb,hc⟩:=g5 hn
  exact ⟨b,off,ha,by omega,by omega,hc⟩
theorem IntsA.read {fz:Bool} {lo hi:Nat} {w:World} {a:Option Addr} {n c:Nat} {xs:List Int} (h:IntsA fz lo hi w a n c xs):IntsA false lo hi w a n c xs:=by
  obtain ⟨g1,g2,g3,g4,g5,g6⟩:=h
  refine ⟨g1,g2,g3,g4,fun hn=>?_,g6⟩
  obtain ⟨b,off,ha,hl,hb,hc⟩:=g5 hn
  exact ⟨b,off,ha,hl,hb,fun i hi=>⟨(hc i hi).1,fun h=>by cases h⟩⟩
theorem IntsA.drewN {fz:Bool} {lo hi:Nat} {w:World} {a:Option Addr} {n c:Nat} {xs:List Int} (h:IntsA fz lo hi w a n c xs) (k:Nat):IntsA fz lo hi (w.drewN k) a n c xs:=h
def Gives (w:World) (v:Value) (e:Ending) (w':World):Prop:=e=.returned v∧∃ k,w'=w.drewN k
theorem dd {w:World} {n m:Nat}:(w.drewN n).drewN m=w.drewN (n+m):=World.drewN_drewN ..
theorem ret_int {k:IntKind} {a b:Int} (h:a=b):Ending.returned (.int k a)=.returned (.int k b):=by rw [h]
theorem below_drewN {B:Nat} {a w:World} (h:Below B a w) (k:Nat):Below B a (w.drewN k):=⟨h.os,h.tape,h.output,h.size,h.block⟩
theorem Below.calm {a b c:World} (h:Below a.heap.size a b) (k:Below b.heap.size b c):Below a.heap.size a c:=h.trans (k.mono h.size)
def Own (base:Nat) (w:World) (a:Option Addr) (n c:Nat) (xs:List Int):Prop :=
  w.ownsRow base 3 1 (.slice a n c) n (xs.map (Value.int .i64))∧∀ x∈xs,I64 x
theorem Own.len {base:Nat} {w:World} {a:Option Addr} {n c:Nat} {xs:List Int} (h:Own base w a n c xs):xs.length=n:=by
  have:=h.1.1;simpa using this
theorem Own.ints {base:Nat} {w:World} {a:Option Addr} {n c:Nat} {xs:List Int} (h:Own base w a n c xs):IntsA true base w.heap.size w a n c xs:=by
  have hlen:=h.len
  obtain ⟨ho,h64⟩:=h
  have ho':=ho
  obtain ⟨h1,h2⟩:=ho
  rcases h2 with ⟨h2,h3⟩ | ⟨g,cap,cur,hv,hb,hg,hnc,hcm,hcs,htake⟩
  · simp only [Value.slice.injEq] at h2
    obtain ⟨rfl,rfl,rfl⟩:=h2
    exact ⟨hlen,Nat.zero_le _,by simp [maxLen],h64,fun h=>by omega,fun _=>rfl⟩
  · simp only [Value.slice.injEq] at hv
    obtain ⟨rfl,_,rfl⟩:=hv
    refine ⟨hlen,hnc,hcm,h64,fun _=>⟨g,0,rfl,hb,(Array.getElem?_eq_some_iff.1 hg).1,fun i hi=>⟨?_,fun _=>?_⟩⟩,fun h=>(by cases h)⟩
    · have h5:=ho'.cells (g:=g) rfl i (.int .i64 (ix xs i)) (by rw [List.getElem?_map,List.getElem?_eq_getElem (by omega),ix_lt (by omega)];rfl)
      rwa [Addr.add_lit] at h5
    · exact frozen_of_row w g (0+i) cur _ hg
theorem Own.keep {base:Nat} {w w':World} {a:Option Addr} {n c:Nat} {xs:List Int} (h:Own base w a n c xs) (hk:Keeps base w.heap.size w w'):Own base w' a n c xs:=by
  obtain ⟨⟨h1,h2⟩,h64⟩:=h
  refine ⟨⟨h1,?_⟩,h64⟩
  rcases h2 with h2 | ⟨g,cap,cur,hv,hb,hg,rest⟩
  · exact .inl h2
  · exact .inr ⟨g,cap,cur,hv,hb,by rw [hk g hb (Array.getElem?_eq_some_iff.1 hg).1];exact hg,rest⟩
theorem Own.drewN {base:Nat} {w:World} {a:Option Addr} {n c:Nat} {xs:List Int} (h:Own base w a n c xs) (k:Nat):Own base (w.drewN k) a n c xs:=h
theorem Own.low {base base':Nat} {w:World} {a:Option Addr} {n c:Nat} {xs:List Int} (h:Own base w a n c xs) (hb:base'≤base):Own base' w a n c xs:=by
  obtain ⟨⟨h1,h2⟩,h64⟩:=h
  refine ⟨⟨h1,?_⟩,h64⟩
  rcases h2 with h2 | ⟨g,cap,cur,hv,hb',rest⟩
  · exact .inl h2
  · exact .inr ⟨g,cap,cur,hv,by omega,rest⟩
def Leaves (w:World) (v:Value) (e:Ending) (w':World):Prop:=e=.returned v∧Below w.heap.size w w'
theorem i64_of_wf {x:Int} (h:(Lit.int .i64 x).wf=true):I64 x:=by
  simp [Lit.wf,IntKind.min,IntKind.max,IntKind.bits,IntKind.signed] at h
  unfold I64;omega
abbrev Rep (α:Type):=Bool→Nat→Nat→World→List Value→α→Prop
structure RepOK {α:Type} (R:Rep α):Prop where
  keep:∀ {fz lo hi w w' cs x},R fz lo hi w cs x→Keeps lo hi w w'→R fz lo hi w' cs x
  wide:∀ {fz lo hi lo' hi' w cs x},R fz lo hi w cs x→lo'≤lo→hi≤hi'→R fz lo' hi' w cs x
  read:∀ {fz lo hi w cs x},R fz lo hi w cs x→R false lo hi w cs x
def SlA {α:Type} (k:Nat) (R:Rep α) (fz:Bool) (lo hi:Nat) (w:World) (a:Option Addr) (n c:Nat) (xs:List α):Prop :=
  xs.length=n∧n≤c∧c≤maxLen ∧
  (0<n→∃ b off,a=some ⟨b,off,none⟩∧lo≤b∧b<hi∧∀ i,i<n→∃ cs x,cs.length=k∧xs[i]? = some x∧R fz lo hi w cs x ∧
    ∀ j,j<k→w.cell? ⟨b,off+i*k+j,none⟩=some (cs.getD j undef)∧(fz=true→w.frozen? ⟨b,off+i*k+j,none⟩=false)) ∧
  (a=none→c=0)
section
variable {α:Type} {k:Nat} {R:Rep α} {fz:Bool} {lo hi lo' hi':Nat} {w w':World} {a:Option Addr} {n c:Nat} {xs:List α}
theorem SlA.len (h:SlA k R fz lo hi w a n c xs):xs.length=n:=h.1
theorem SlA.small (h:SlA k R fz lo hi w a n c xs):n≤9223372036854775807:=by
  have h1:=h.2.1;have h2:=h.2.2.1;unfold maxLen at h2;omega
theorem SlA.open (h:SlA k R fz lo hi w a n c xs) (hn:0<n):∃ b off,a=some ⟨b,off,none⟩∧lo≤b∧b<hi∧∀ i,i<n→∃ cs x,cs.length=k∧xs[i]? = some x∧R fz lo hi w cs x ∧
    ∀ j,j<k→w.cell? ⟨b,off+i*k+j,none⟩=some (cs.getD j undef)∧(fz=true→w.frozen? ⟨b,off+i*k+j,none⟩=false):=h.2.2.2.1 hn
theorem SlA.keep (ok:RepOK R) (h:SlA k R fz lo hi w a n c xs) (hk:Keeps lo hi w w'):SlA k R fz lo hi w' a n c xs:=by
  obtain ⟨h1,h2,h3,h4,h5⟩:=h
  refine ⟨h1,h2,h3,fun hn=>?_,h5⟩
  obtain ⟨b,off,ha,hl,hb,hc⟩:=h4 hn
  refine ⟨b,off,ha,hl,hb,fun i hi=>?_⟩
  obtain ⟨cs,x,g1,g2,g3,g4⟩:=hc i hi
  refine ⟨cs,x,g1,g2,ok.keep g3 hk,fun j hj=>⟨?_,fun hf=>?_⟩⟩
  · rw [World.cell?_of_block (w:=w) (hk b hl hb)];exact (g4 j hj).1
  · rw [World.frozen?_of_block (w:=w) (hk b hl hb)];exact (g4 j hj).2 hf
theorem SlA.drewN (ok:RepOK R) (h:SlA k R fz lo hi w a n c xs) (m:Nat):SlA k R fz lo hi (w.drewN m) a n c xs:=h.keep ok (Keeps.drewN lo hi w m)
theorem SlA.wide (ok:RepOK R) (h:SlA k R fz lo hi w a n c xs) (h1:lo'≤lo) (h2:hi≤hi'):SlA k R fz lo' hi' w a n c xs:=by
  obtain ⟨g1,g2,g3,g4,g5⟩:=h
  refine ⟨g1,g2,g3,fun hn=>?_,g5⟩
  obtain ⟨b,off,ha,hl,hb,hc⟩:=g4 hn
  refine ⟨b,off,ha,by omega,by omega,fun i hi=>?_⟩
  obtain ⟨cs,x,g1,g2,g3,g4⟩:=hc i hi
  exact ⟨cs,x,g1,g2,ok.wide g3 h1 h2,g4⟩
theorem SlA.read (ok:RepOK R) (h:SlA k R fz lo hi w a n c xs):SlA k R false lo hi w a n c xs:=by
  obtain ⟨g1,g2,g3,g4,g5⟩:=h
  refine ⟨g1,g2,g3,fun hn=>?_,g5⟩
  obtain ⟨b,off,ha,hl,hb,hc⟩:=g4 hn
  refine ⟨b,off,ha,hl,hb,fun i hi=>?_⟩
  obtain ⟨cs,x,g1,g2,g3,g4⟩:=hc i hi
  exact ⟨cs,x,g1,g2,ok.read g3,fun j hj=>⟨(g4 j hj).1,fun h=>(by cases h)⟩⟩
end
def intsR:Rep (List Int):=fun fz lo hi w cs xs=>∃ a n c,cs=[.slice a n c]∧IntsA fz lo hi w a n c xs
abbrev RowsA:=SlA 1 intsR
def rx (xss:List (List Int)) (i:Nat):List Int:=xss.getD i []
theorem RowsA.at {fz:Bool} {lo hi:Nat} {w:World} {b off n c:Nat} {xss:List (List Int)} (h:RowsA fz lo hi w (some ⟨b,off,none⟩) n c xss) {i:Nat} (hi':i<n) :
    lo≤b∧b<hi∧∃ ra rn rc,w.cell? ⟨b,off+i,none⟩=some (.slice ra rn rc)∧IntsA fz lo hi w ra rn rc (rx xss i)∧(fz=true→w.frozen? ⟨b,off+i,none⟩=false):=by
  obtain ⟨b',off',ha,hl,hb,hc⟩:=h.open (by omega)
  simp only [Option.some.injEq,Addr.mk.injEq,and_true] at ha
  obtain ⟨rfl,rfl⟩:=ha
  obtain ⟨cs,x,g1,g2,⟨ra,rn,rc,rfl,g3⟩,g4⟩:=hc i hi'
  have g5:=g4 0 (by omega)
  have hx:rx xss i=x:=by simp [rx,g2]
  refine ⟨hl,hb,ra,rn,rc,by simpa using g5.1,by rw [hx];exact g3,by simpa using g5.2⟩
theorem RowsA.some {fz:Bool} {lo hi:Nat} {w:World} {a:Option Addr} {n c:Nat} {xss:List (List Int)} (h:RowsA fz lo hi w a n c xss) (hn:0<n):∃ b off,a=some ⟨b,off,none⟩:=by
  obtain ⟨b,off,ha,_⟩:=h.open hn
  exact ⟨b,off,ha⟩
theorem Own.alloc {base:Nat} {w:World} {a:Option Addr} {n c:Nat} {xs:List Int} (h:Own base w a n c xs) (o:Obj):Own base (w.alloc o) a n c xs:=⟨h.1.alloc o,h.2⟩
theorem Own.grown {base B:Nat} {w0 w w':World} {a:Option Addr} {n c:Nat} {xs:List Int} (h:Own base w a n c xs) (hg:w.grownBy w' (Value.slice a n c).ownBlock) (hb:Below B w0 w) (hB:B≤base) (hB2:B≤w.heap.size):Below B w0 w' :=
  hb.grown hg hB2 (fun k hk=>by have:=h.1.lt k hk;omega)
end Go.Proofs.Ytpbclpopoodklaa
