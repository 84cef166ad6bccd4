/- Lemmas for the proof of FnCoverDuality, part 1 of 26: no condition of their own. -/
import Derived.Test.YtkohkoiegmcghaaDoorRows
import Derived.WalkKit
import Derived.WalkSpells
import Derived.WalkLawsBesides
import Derived.Deep.QuietTactic
import Derived.BigQuiet
import Derived.Deep.LoopGhost
import Derived.Laws.AppendOwnNone
import Derived.Deep.RegionLaw
namespace Go.Proofs.YtkohkoiegmcghaaDoor
set_option linter.unusedSimpArgs false
set_option linter.unusedVariables false
open Go.RowKit
theorem hid {p:Prop} (h:p):Hid p:=h
def ix (xs:List Int) (i:Nat):Int:=xs.getD i 0
theorem ix_lt {xs:List Int} {i:Nat} (h:i<xs.length):ix xs i=xs[i]:=by simp [ix,h]
def I64 (x:Int):Prop:=-9223372036854775808≤x∧x≤9223372036854775807
def IntsA (fz:Bool) (lo hi:Nat) (w:World) (a:Option Addr) (n c:Nat) (xs:List Int):Prop :=
 xs.length=n∧n≤c∧c≤maxLen∧(∀ x∈xs,I64 x)∧(0<n→∃ b off,a=some ⟨b,off,none⟩∧lo≤b∧b<hi∧∀ i,i<n→w.cell? ⟨b,off+i,none⟩=some (.int .i64 (ix xs i))∧(fz=true→w.frozen? ⟨b,off+i,none⟩=false))∧(a=none→c=0)
theorem IntsA.len {fz:Bool} {lo hi:Nat} {w:World} {a:Option Addr} {n c:Nat} {xs:List Int} (h:IntsA fz lo hi w a n c xs):xs.length=n:=h.1
theorem IntsA.small {fz:Bool} {lo hi:Nat} {w:World} {a:Option Addr} {n c:Nat} {xs:List Int} (h:IntsA fz lo hi w a n c xs):n≤9223372036854775807:=by
 have h1:=h.2.1;have h2:=h.2.2.1;unfold maxLen at h2;omega
theorem IntsA.at {fz:Bool} {lo hi:Nat} {w:World} {a:Option Addr} {n c:Nat} {xs:List Int} (h:IntsA fz lo hi w a n c xs) {i:Nat} (hi':i<n):I64 (ix xs i):=by
 have:=h.1;rw [ix_lt (by omega)];exact h.2.2.2.1 _ (List.getElem_mem _)
theorem IntsA.open {fz:Bool} {lo hi:Nat} {w:World} {a:Option Addr} {n c:Nat} {xs:List Int} (h:IntsA fz lo hi w a n c xs) (hn:0<n) :
 ∃ b off,a=some ⟨b,off,none⟩∧lo≤b∧b<hi∧(∀ i,i<n→w.cell? ⟨b,off+i,none⟩=some (.int .i64 (ix xs i)))∧(fz=true→∀ i,i<n→w.frozen? ⟨b,off+i,none⟩=false):=by
 obtain ⟨b,off,h1,h2,h3,h4⟩:=h.2.2.2.2.1 hn
 exact ⟨b,off,h1,h2,h3,fun i hi=>(h4 i hi).1,fun hf i hi=>(h4 i hi).2 hf⟩
def Keeps (lo hi:Nat) (w w':World):Prop:=∀ k,lo≤k→k<hi→w'.heap[k]? = w.heap[k]?
theorem Keeps.refl (lo hi:Nat) (w:World):Keeps lo hi w w:=fun _ _ _=>rfl
theorem Keeps.trans {lo hi:Nat} {a b c:World} (h:Keeps lo hi a b) (k:Keeps lo hi b c):Keeps lo hi a c:=fun i h1 h2=>(k i h1 h2).trans (h i h1 h2)
theorem Keeps.of_below {B lo hi:Nat} {w w':World} (h:Below B w w') (hh:hi≤B):Keeps lo hi w w':=fun k _ h2=>h.block k (by omega)
theorem Keeps.mono {lo hi lo' hi':Nat} {w w':World} (h:Keeps lo hi w w') (h1:lo≤lo') (h2:hi'≤hi):Keeps lo' hi' w w':=fun k a b=>h k (by omega) (by omega)
theorem Keeps.drewN (lo hi:Nat) (w:World) (n:Nat):Keeps lo hi w (w.drewN n):=fun _ _ _=>rfl
theorem IntsA.keep {fz:Bool} {lo hi:Nat} {w w':World} {a:Option Addr} {n c:Nat} {xs:List Int} (h:IntsA fz lo hi w a n c xs) (hk:Keeps lo hi w w'):IntsA fz lo hi w' a n c xs:=by
 obtain ⟨h1,h2,h3,h4,h5,h6⟩:=h
 refine ⟨h1,h2,h3,h4,fun hn=>?_,h6⟩
 obtain ⟨b,off,ha,hl,hb,hc⟩:=h5 hn
 refine ⟨b,off,ha,hl,hb,fun i hi=>⟨?_,fun hf=>?_⟩⟩
 ·rw [World.cell?_of_block (w:=w) (hk b hl hb)];exact (hc i hi).1
 ·rw [World.frozen?_of_block (w:=w) (hk b hl hb)];exact (hc i hi).2 hf
theorem IntsA.wide {fz:Bool} {lo hi lo' hi':Nat} {w:World} {a:Option Addr} {n c:Nat} {xs:List Int} (h:IntsA fz lo hi w a n c xs) (h1:lo'≤lo) (h2:hi≤hi'):IntsA fz lo' hi' w a n c xs:=by
 obtain ⟨g1,g2,g3,g4,g5,g6⟩:=h
 refine ⟨g1,g2,g3,g4,fun hn=>?_,g6⟩
 obtain ⟨b,off,ha,hl,hb,hc⟩:=g5 hn
 exact ⟨b,off,ha,by omega,by omega,hc⟩
theorem IntsA.read {fz:Bool} {lo hi:Nat} {w:World} {a:Option Addr} {n c:Nat} {xs:List Int} (h:IntsA fz lo hi w a n c xs):IntsA false lo hi w a n c xs:=by
 obtain ⟨g1,g2,g3,g4,g5,g6⟩:=h
 refine ⟨g1,g2,g3,g4,fun hn=>?_,g6⟩
 obtain ⟨b,off,ha,hl,hb,hc⟩:=g5 hn
 exact ⟨b,off,ha,hl,hb,fun i hi=>⟨(hc i hi).1,fun h=>by cases h⟩⟩
theorem IntsA.drewN {fz:Bool} {lo hi:Nat} {w:World} {a:Option Addr} {n c:Nat} {xs:List Int} (h:IntsA fz lo hi w a n c xs) (k:Nat):IntsA fz lo hi (w.drewN k) a n c xs:=h
def Gives (w:World) (v:Value) (e:Ending) (w':World):Prop:=e=.returned v∧∃ k,w'=w.drewN k
theorem dd {w:World} {n m:Nat}:(w.drewN n).drewN m=w.drewN (n+m):=World.drewN_drewN ..
theorem keeps_dr {w w':World} (lo hi:Nat) (h:∃ k,w'=w.drewN k):Keeps lo hi w w':=by obtain ⟨k,rfl⟩:=h;exact Keeps.drewN lo hi w k
theorem dr_more {w w':World} (h:∃ k,w'=w.drewN k) (m:Nat):∃ k,w'.drewN m=w.drewN k:=by obtain ⟨k,rfl⟩:=h;exact ⟨_,dd⟩
theorem ret_int {k:IntKind} {a b:Int} (h:a=b):Ending.returned (.int k a)=.returned (.int k b):=by rw [h]
theorem below_drewN {B:Nat} {a w:World} (h:Below B a w) (k:Nat):Below B a (w.drewN k):=⟨h.os,h.tape,h.output,h.size,h.block⟩
theorem Below.calm {a b c:World} (h:Below a.heap.size a b) (k:Below b.heap.size b c):Below a.heap.size a c:=h.trans (k.mono h.size)
def Own (base:Nat) (w:World) (a:Option Addr) (n c:Nat) (xs:List Int):Prop :=
 w.ownsRow base 3 1 (.slice a n c) n (xs.map (Value.int .i64))∧∀ x∈xs,I64 x
theorem Own.len {base:Nat} {w:World} {a:Option Addr} {n c:Nat} {xs:List Int} (h:Own base w a n c xs):xs.length=n:=by
 have:=h.1.1;simpa using this
theorem Own.ints {base:Nat} {w:World} {a:Option Addr} {n c:Nat} {xs:List Int} (h:Own base w a n c xs):IntsA true base w.heap.size w a n c xs:=by
 have hlen:=h.len
 obtain ⟨ho,h64⟩:=h
 have ho':=ho
 obtain ⟨h1,h2⟩:=ho
 rcases h2 with ⟨h2,h3⟩ | ⟨g,cap,cur,hv,hb,hg,hnc,hcm,hcs,htake⟩
 ·simp only [Value.slice.injEq] at h2
  obtain ⟨rfl,rfl,rfl⟩:=h2
  exact ⟨hlen,Nat.zero_le _,by simp [maxLen],h64,fun h=>by omega,fun _=>rfl⟩
 ·simp only [Value.slice.injEq] at hv
  obtain ⟨rfl,_,rfl⟩:=hv
  refine ⟨hlen,hnc,hcm,h64,fun _=>⟨g,0,rfl,hb,(Array.getElem?_eq_some_iff.1 hg).1,fun i hi=>⟨?_,fun _=>?_⟩⟩,fun h=>(by cases h)⟩
  ·have h5:=ho'.cells (g:=g) rfl i (.int .i64 (ix xs i)) (by rw [List.getElem?_map,List.getElem?_eq_getElem (by omega),ix_lt (by omega)];rfl)
   rwa [Addr.add_lit] at h5
  ·exact frozen_of_row w g (0+i) cur _ hg
theorem Own.keep {base:Nat} {w w':World} {a:Option Addr} {n c:Nat} {xs:List Int} (h:Own base w a n c xs) (hk:Keeps base w.heap.size w w'):Own base w' a n c xs:=by
 obtain ⟨⟨h1,h2⟩,h64⟩:=h
 refine ⟨⟨h1,?_⟩,h64⟩
 rcases h2 with h2 | ⟨g,cap,cur,hv,hb,hg,rest⟩
 ·exact .inl h2
 ·exact .inr ⟨g,cap,cur,hv,hb,by rw [hk g hb (Array.getElem?_eq_some_iff.1 hg).1];exact hg,rest⟩
theorem Own.drewN {base:Nat} {w:World} {a:Option Addr} {n c:Nat} {xs:List Int} (h:Own base w a n c xs) (k:Nat):Own base (w.drewN k) a n c xs:=h
theorem Own.low {base base':Nat} {w:World} {a:Option Addr} {n c:Nat} {xs:List Int} (h:Own base w a n c xs) (hb:base'≤base):Own base' w a n c xs:=by
 obtain ⟨⟨h1,h2⟩,h64⟩:=h
 refine ⟨⟨h1,?_⟩,h64⟩
 rcases h2 with h2 | ⟨g,cap,cur,hv,hb',rest⟩
 ·exact .inl h2
 ·exact .inr ⟨g,cap,cur,hv,by omega,rest⟩
def GivesOwn (w:World) (xs:List Int) (e:Ending) (w':World):Prop :=
 ∃ a n c,e=.returned (.slice a n c)∧Own w.heap.size w' a n c xs∧Below w.heap.size w w'
def Leaves (w:World) (v:Value) (e:Ending) (w':World):Prop:=e=.returned v∧Below w.heap.size w w'
theorem infoInt:(Tryd.prog.info? 3).map (fun i=>(i.zero,i.size,i.bytes))=some (some (.int .i64 0),1,8):=by kernel_rfl
abbrev Rep (α:Type):=Bool→Nat→Nat→World→List Value→α→Prop
structure RepOK {α:Type} (R:Rep α):Prop where
 keep:∀ {fz lo hi w w' cs x},R fz lo hi w cs x→Keeps lo hi w w'→R fz lo hi w' cs x
 wide:∀ {fz lo hi lo' hi' w cs x},R fz lo hi w cs x→lo'≤lo→hi≤hi'→R fz lo' hi' w cs x
 read:∀ {fz lo hi w cs x},R fz lo hi w cs x→R false lo hi w cs x
def SlA {α:Type} (k:Nat) (R:Rep α) (fz:Bool) (lo hi:Nat) (w:World) (a:Option Addr) (n c:Nat) (xs:List α):Prop :=
 xs.length=n∧n≤c∧c≤maxLen∧(0<n→∃ b off,a=some ⟨b,off,none⟩∧lo≤b∧b<hi∧∀ i,i<n→∃ cs x,cs.length=k∧xs[i]? = some x∧R fz lo hi w cs x ∧
  ∀ j,j<k→w.cell? ⟨b,off+i*k+j,none⟩=some (cs.getD j undef)∧(fz=true→w.frozen? ⟨b,off+i*k+j,none⟩=false))∧(a=none→c=0)
section
variable {α:Type} {k:Nat} {R:Rep α} {fz:Bool} {lo hi lo' hi':Nat} {w w':World} {a:Option Addr} {n c:Nat} {xs:List α}
theorem SlA.len (h:SlA k R fz lo hi w a n c xs):xs.length=n:=h.1
theorem SlA.small (h:SlA k R fz lo hi w a n c xs):n≤9223372036854775807:=by
 have h1:=h.2.1;have h2:=h.2.2.1;unfold maxLen at h2;omega
theorem SlA.open (h:SlA k R fz lo hi w a n c xs) (hn:0<n):∃ b off,a=some ⟨b,off,none⟩∧lo≤b∧b<hi∧∀ i,i<n→∃ cs x,cs.length=k∧xs[i]? = some x∧R fz lo hi w cs x ∧
 ∀ j,j<k→w.cell? ⟨b,off+i*k+j,none⟩=some (cs.getD j undef)∧(fz=true→w.frozen? ⟨b,off+i*k+j,none⟩=false):=h.2.2.2.1 hn
theorem SlA.keep (ok:RepOK R) (h:SlA k R fz lo hi w a n c xs) (hk:Keeps lo hi w w'):SlA k R fz lo hi w' a n c xs:=by
 obtain ⟨h1,h2,h3,h4,h5⟩:=h
 refine ⟨h1,h2,h3,fun hn=>?_,h5⟩
 obtain ⟨b,off,ha,hl,hb,hc⟩:=h4 hn
 refine ⟨b,off,ha,hl,hb,fun i hi=>?_⟩
 obtain ⟨cs,x,g1,g2,g3,g4⟩:=hc i hi
 refine ⟨cs,x,g1,g2,ok.keep g3 hk,fun j hj=>⟨?_,fun hf=>?_⟩⟩
 ·rw [World.cell?_of_block (w:=w) (hk b hl hb)];exact (g4 j hj).1
 ·rw [World.frozen?_of_block (w:=w) (hk b hl hb)];exact (g4 j hj).2 hf
theorem SlA.drewN (ok:RepOK R) (h:SlA k R fz lo hi w a n c xs) (m:Nat):SlA k R fz lo hi (w.drewN m) a n c xs:=h.keep ok (Keeps.drewN lo hi w m)
theorem SlA.wide (ok:RepOK R) (h:SlA k R fz lo hi w a n c xs) (h1:lo'≤lo) (h2:hi≤hi'):SlA k R fz lo' hi' w a n c xs:=by
 obtain ⟨g1,g2,g3,g4,g5⟩:=h
 refine ⟨g1,g2,g3,fun hn=>?_,g5⟩
 obtain ⟨b,off,ha,hl,hb,hc⟩:=g4 hn
 refine ⟨b,off,ha,by omega,by omega,fun i hi=>?_⟩
 obtain ⟨cs,x,g1,g2,g3,g4⟩:=hc i hi
 exact ⟨cs,x,g1,g2,ok.wide g3 h1 h2,g4⟩
theorem SlA.read (ok:RepOK R) (h:SlA k R fz lo hi w a n c xs):SlA k R false lo hi w a n c xs:=by
 obtain ⟨g1,g2,g3,g4,g5⟩:=h
 refine ⟨g1,g2,g3,fun hn=>?_,g5⟩
 obtain ⟨b,off,ha,hl,hb,hc⟩:=g4 hn
 refine ⟨b,off,ha,hl,hb,fun i hi=>?_⟩
 obtain ⟨cs,x,g1,g2,g3,g4⟩:=hc i hi
 exact ⟨cs,x,g1,g2,ok.read g3,fun j hj=>⟨(g4 j hj).1,fun h=>(by cases h)⟩⟩
end
def intsR:Rep (List Int):=fun fz lo hi w cs xs=>∃ a n c,cs=[.slice a n c]∧IntsA fz lo hi w a n c xs
abbrev RowsA:=SlA 1 intsR
def rx (xss:List (List Int)) (i:Nat):List Int:=xss.getD i []
theorem RowsA.at {fz:Bool} {lo hi:Nat} {w:World} {b off n c:Nat} {xss:List (List Int)} (h:RowsA fz lo hi w (some ⟨b,off,none⟩) n c xss) {i:Nat} (hi':i<n) :
 lo≤b∧b<hi∧∃ ra rn rc,w.cell? ⟨b,off+i,none⟩=some (.slice ra rn rc)∧IntsA fz lo hi w ra rn rc (rx xss i)∧(fz=true→w.frozen? ⟨b,off+i,none⟩=false):=by
 obtain ⟨b',off',ha,hl,hb,hc⟩:=h.open (by omega)
 simp only [Option.some.injEq,Addr.mk.injEq,and_true] at ha
 obtain ⟨rfl,rfl⟩:=ha
 obtain ⟨cs,x,g1,g2,⟨ra,rn,rc,rfl,g3⟩,g4⟩:=hc i hi'
 have g5:=g4 0 (by omega)
 have hx:rx xss i=x:=by simp [rx,g2]
 refine ⟨hl,hb,ra,rn,rc,by simpa using g5.1,by rw [hx];exact g3,by simpa using g5.2⟩
theorem RowsA.some {fz:Bool} {lo hi:Nat} {w:World} {a:Option Addr} {n c:Nat} {xss:List (List Int)} (h:RowsA fz lo hi w a n c xss) (hn:0<n):∃ b off,a=some ⟨b,off,none⟩:=by
 obtain ⟨b,off,ha,_⟩:=h.open hn
 exact ⟨b,off,ha⟩
theorem wpApp {fz:Bool} {lo hi:Nat} {w:World} {ops:Array Oper} {rest:List Oper} {o:Oper} {a:Act} {Q:Exit→Act→World→Prop} (hgd:o.guard=none) (s x:Operand)
 (ho:o.op=.call { callee:=.builtin .append,args:=#[s,x],argTypes:=#[25,25] })
 (base:Nat) (a1:Option Addr) (n1 c1:Nat) (xs:List Int) (hs:a.eval s=.slice a1 n1 c1) (hown:Own base w a1 n1 c1 xs)
 (ao:Option Addr) (m c:Nat) (ys:List Int) (hx:a.eval x=.slice ao m c) (hI:IntsA fz lo hi w ao m c ys) (hb:n1+m≤8796093022208) (hbase:base≤w.heap.size)
 (h:∀ a' c' w',Own base w' a' (n1+m) c' (xs ++ ys)→w.grownBy w' (Value.slice a1 n1 c1).ownBlock→wpList Tryd.prog ops Q rest (a.put o.dst (.slice a' (n1+m) c')) w') :
 wpList Tryd.prog ops Q (o :: rest) a w:=by
 obtain ⟨i0,hi0,hz0,hz1,hz2⟩:=info_parts infoInt
 have h64:∀ z∈xs ++ ys,I64 z:=fun z hz=>(List.mem_append.1 hz).elim (hown.2 z) (hI.2.2.2.1 z)
 have hlen:=hI.len
 cases ao with
 | none =>
  have hc0:=hI.2.2.2.2.2 rfl
  have hm0:m=0:=by have:=hI.2.1;omega
  subst hc0;subst hm0
  have hys:ys=[]:=List.eq_nil_of_length_eq_zero hlen
  subst hys
  refine wpList_append_own_none hgd s x 25 ho base 3 i0 1 Tryd.underlying25 hi0 _ n1 _ hs hown.1 hx ?_
  exact h a1 c1 w (by simpa using hown) (World.grownBy.refl w _)
 | some ad =>
  refine wpList_append_own w hgd s x 25 ho base 3 i0 (.int .i64 0) 1 8 Tryd.underlying25 hi0 hz0 hz1 hz2 rfl (by decide) _ n1 _ hs hown.1 ad m c (ys.map (Value.int .i64)) hx (by simp [hlen]) ?_ ?_ (by unfold maxLen;omega) (by omega) hbase ?_
  ·intro j u hj
   have hjm:j<m:=by have:=(List.getElem?_eq_some_iff.1 hj).1;simpa [hlen] using this
   obtain ⟨b,off,hab,_,_,hcell,_⟩:=hI.open (by omega)
   obtain rfl:ad=⟨b,off,none⟩:=by simpa using hab
   rw [Addr.add_lit,hcell j hjm,ix_lt (by omega)]
   rw [List.getElem?_map,List.getElem?_eq_getElem (by omega)] at hj
   simpa using hj
  ·exact ints_oneCell .i64 ys
  ·intro v' w' hown' hgrow _
   obtain ⟨a',c',rfl⟩:∃ a' c',v'=.slice a' (n1+m) c':=by
    rcases hown'.2 with ⟨rfl,hz⟩ | ⟨g,cap,cur,rfl,_⟩
    ·exact ⟨none,0,by rw [hz]⟩
    ·exact ⟨_,_,rfl⟩
   exact h a' c' w' ⟨by simpa using hown',h64⟩ hgrow
theorem one_ints (w:World) (x:Int) (T:TypeId) (hx:I64 x):IntsA true w.heap.size (w.heap.size+1) (w.alloc (.cells #[.int .i64 x] T)) (some ⟨w.heap.size,0,none⟩) 1 1 [x]:=by
 refine ⟨rfl,Nat.le_refl _,by simp [maxLen],by simpa using hx,fun _=>⟨_,0,rfl,Nat.le_refl _,by omega,fun i hi=>?_⟩,fun h=>(by cases h)⟩
 obtain rfl:i=0:=by omega
 exact ⟨by simp [ix],fun _=>by simp⟩
theorem Own.alloc {base:Nat} {w:World} {a:Option Addr} {n c:Nat} {xs:List Int} (h:Own base w a n c xs) (o:Obj):Own base (w.alloc o) a n c xs:=⟨h.1.alloc o,h.2⟩
theorem own_nil (w:World) (base:Nat):Own base w none 0 0 []:=⟨World.ownsRow_nil ..,fun _ h=>(by cases h)⟩
theorem ho0' {B:Nat} {w wr w1:World} {o:Obj} {a:Option Addr} {n c:Nat} {xs:List Int} (h:Own B wr a n c xs) (hb:Below B w wr) (hB:B≤wr.heap.size) (hg:(wr.alloc o).grownBy w1 (Value.slice a n c).ownBlock):Below B w w1 :=
 (hb.alloc hB o).grown hg (by simp;omega) (fun k hk=>by have:=h.1.lt k hk;omega)
theorem Own.grown {base B:Nat} {w0 w w':World} {a:Option Addr} {n c:Nat} {xs:List Int} (h:Own base w a n c xs) (hg:w.grownBy w' (Value.slice a n c).ownBlock) (hb:Below B w0 w) (hB:B≤base) (hB2:B≤w.heap.size):Below B w0 w' :=
 hb.grown hg hB2 (fun k hk=>by have:=h.1.lt k hk;omega)
end Go.Proofs.YtkohkoiegmcghaaDoor
namespace Go.Proofs.YtkohkoiegmcghaaDoor
set_option linter.unusedSimpArgs false
set_option linter.unusedVariables false
open Go.RowKit
section
variable {k:Nat} {lo hi:Nat} {w w':World} {a:Option Addr} {n c:Nat} {vs:List Value}
def FlatA (k lo hi:Nat) (w:World) (a:Option Addr) (n c:Nat) (vs:List Value):Prop :=
 vs.length=n*k∧n≤c∧c≤maxLen∧(∀ u∈vs,u.oneCell'=true)∧(0<n→∃ b off,a=some ⟨b,off,none⟩∧lo≤b∧b<hi∧∀ i u,vs[i]? = some u→w.cell? ⟨b,off+i,none⟩=some u)∧(a=none→c=0)
theorem FlatA.len (h:FlatA k lo hi w a n c vs):vs.length=n*k:=h.1
theorem FlatA.small (h:FlatA k lo hi w a n c vs):n≤9223372036854775807:=by
 have h1:=h.2.1;have h2:=h.2.2.1;unfold maxLen at h2;omega
theorem FlatA.keep (h:FlatA k lo hi w a n c vs) (hk:Keeps lo hi w w'):FlatA k lo hi w' a n c vs:=by
 obtain ⟨h1,h2,h3,h4,h5,h6⟩:=h
 refine ⟨h1,h2,h3,h4,fun hn=>?_,h6⟩
 obtain ⟨b,off,ha,hl,hb,hc⟩:=h5 hn
 exact ⟨b,off,ha,hl,hb,fun i u hu=>by rw [World.cell?_of_block (w:=w) (hk b hl hb)];exact hc i u hu⟩
theorem FlatA.wide {lo' hi':Nat} (h:FlatA k lo hi w a n c vs) (h1:lo'≤lo) (h2:hi≤hi'):FlatA k lo' hi' w a n c vs:=by
 obtain ⟨g1,g2,g3,g4,g5,g6⟩:=h
 refine ⟨g1,g2,g3,g4,fun hn=>?_,g6⟩
 obtain ⟨b,off,ha,hl,hb,hc⟩:=g5 hn
 exact ⟨b,off,ha,by omega,by omega,hc⟩
theorem FlatA.drewN (h:FlatA k lo hi w a n c vs) (m:Nat):FlatA k lo hi (w.drewN m) a n c vs:=h
theorem FlatA.open (h:FlatA k lo hi w a n c vs) (hn:0<n):∃ b off,a=some ⟨b,off,none⟩∧lo≤b∧b<hi∧∀ i u,vs[i]? = some u→w.cell? ⟨b,off+i,none⟩=some u:=h.2.2.2.2.1 hn
end
def OwnF (e:TypeId) (k base:Nat) (w:World) (a:Option Addr) (n c:Nat) (vs:List Value):Prop:=w.ownsRow base e k (.slice a n c) n vs∧∀ u∈vs,u.oneCell'=true
theorem OwnF.len {e:TypeId} {k base:Nat} {w:World} {a:Option Addr} {n c:Nat} {vs:List Value} (h:OwnF e k base w a n c vs):vs.length=n*k:=h.1.1
theorem OwnF.flat {e:TypeId} {k base:Nat} {w:World} {a:Option Addr} {n c:Nat} {vs:List Value} (h:OwnF e k base w a n c vs):FlatA k base w.heap.size w a n c vs:=by
 have hlen:=h.len
 obtain ⟨ho,h1c⟩:=h
 have ho':=ho
 obtain ⟨h1,h2⟩:=ho
 rcases h2 with ⟨h2,h3⟩ | ⟨g,cap,cur,hv,hb,hg,hnc,hcm,hcs,htake⟩
 ·simp only [Value.slice.injEq] at h2
  obtain ⟨rfl,rfl,rfl⟩:=h2
  exact ⟨hlen,Nat.zero_le _,by simp [maxLen],h1c,fun h=>by omega,fun _=>rfl⟩
 ·simp only [Value.slice.injEq] at hv
  obtain ⟨rfl,_,rfl⟩:=hv
  refine ⟨hlen,hnc,hcm,h1c,fun _=>⟨g,0,rfl,hb,(Array.getElem?_eq_some_iff.1 hg).1,fun i u hu=>?_⟩,fun h=>(by cases h)⟩
  have h5:=ho'.cells (g:=g) rfl i u hu
  rwa [Addr.add_lit] at h5
theorem OwnF.free {e:TypeId} {k base:Nat} {w:World} {g n c:Nat} {vs:List Value} (h:OwnF e k base w (some ⟨g,0,none⟩) n c vs) (i:Nat):w.frozen? ⟨g,i,none⟩=false:=by
 rcases h.1.2 with ⟨h2,h3⟩ | ⟨g',cap,cur,hv,hb,hg,_⟩
 ·simp at h2
 ·simp only [Value.slice.injEq,Option.some.injEq,Addr.mk.injEq,and_true] at hv
  obtain ⟨rfl,_,rfl⟩:=hv
  exact frozen_of_row w g i cur _ hg
theorem OwnF.head {e:TypeId} {k base:Nat} {w:World} {a:Option Addr} {n c:Nat} {vs:List Value} (h:OwnF e k base w a n c vs) (hn:0<n):∃ g,a=some ⟨g,0,none⟩∧base≤g∧g<w.heap.size:=by
 rcases h.1.2 with ⟨h2,h3⟩ | ⟨g',cap,cur,hv,hb,hg,_⟩
 ·omega
 ·simp only [Value.slice.injEq] at hv
  exact ⟨g',hv.1,hb,(Array.getElem?_eq_some_iff.1 hg).1⟩
theorem OwnF.low {e:TypeId} {k base base':Nat} {w:World} {a:Option Addr} {n c:Nat} {vs:List Value} (h:OwnF e k base w a n c vs) (hb:base'≤base):OwnF e k base' w a n c vs:=by
 obtain ⟨⟨h1,h2⟩,h64⟩:=h
 refine ⟨⟨h1,?_⟩,h64⟩
 rcases h2 with h2 | ⟨g,cap,cur,hv,hb',rest⟩
 ·exact .inl h2
 ·exact .inr ⟨g,cap,cur,hv,by omega,rest⟩
theorem OwnF.keep {e:TypeId} {k base:Nat} {w w':World} {a:Option Addr} {n c:Nat} {vs:List Value} (h:OwnF e k base w a n c vs) (hk:Keeps base w.heap.size w w'):OwnF e k base w' a n c vs:=by
 obtain ⟨⟨h1,h2⟩,h64⟩:=h
 refine ⟨⟨h1,?_⟩,h64⟩
 rcases h2 with h2 | ⟨g,cap,cur,hv,hb,hg,rest⟩
 ·exact .inl h2
 ·exact .inr ⟨g,cap,cur,hv,hb,by rw [hk g hb (Array.getElem?_eq_some_iff.1 hg).1];exact hg,rest⟩
theorem OwnF.alloc {e:TypeId} {k base:Nat} {w:World} {a:Option Addr} {n c:Nat} {vs:List Value} (h:OwnF e k base w a n c vs) (o:Obj):OwnF e k base (w.alloc o) a n c vs:=⟨h.1.alloc o,h.2⟩
theorem OwnF.drewN {e:TypeId} {k base:Nat} {w:World} {a:Option Addr} {n c:Nat} {vs:List Value} (h:OwnF e k base w a n c vs) (m:Nat):OwnF e k base (w.drewN m) a n c vs:=h
theorem ownF_nil (e:TypeId) (k:Nat) (w:World) (base:Nat):OwnF e k base w none 0 0 []:=⟨World.ownsRow_nil ..,fun _ h=>(by cases h)⟩
structure ElemF (t e:TypeId) (k bytes:Nat):Prop where
 under:Tryd.prog.underlying t=some (.slice e)
 info:∃ i z,Tryd.prog.info? e=some i∧i.zero=some z∧i.size=k∧i.bytes=bytes∧z.cells.size=k
 small:bytes≤4096
 pos:0<k
theorem run_append_flat {t e k bytes:Nat} (ht:ElemF t e k bytes) {lo hi:Nat} {w:World} (ty:TypeId) (base:Nat) (a1:Option Addr) (n1 c1:Nat) (vs:List Value) (hown:OwnF e k base w a1 n1 c1 vs)
 (ao:Option Addr) (m c:Nat) (us:List Value) (hI:FlatA k lo hi w ao m c us) (hb:n1+m≤16777216) (hbase:base≤w.heap.size) :
 ∃ a' c' w',(Builtin.append_ #[t,t] ty #[.slice a1 n1 c1,.slice ao m c]).run Tryd.prog w=.ok (.slice a' (n1+m) c') w'∧OwnF e k base w' a' (n1+m) c' (vs ++ us)∧w.grownBy w' (Value.slice a1 n1 c1).ownBlock:=by
 obtain ⟨i0,z,hi0,hz0,hz1,hz2,hz3⟩:=ht.info
 have h1c:∀ u∈vs ++ us,u.oneCell'=true:=fun u hu=>(List.mem_append.1 hu).elim (hown.2 u) (hI.2.2.2.1 u)
 have hlen:=hI.len
 cases ao with
 | none =>
  have hc0:=hI.2.2.2.2.2 rfl
  have hm0:m=0:=by have:=hI.2.1;omega
  subst hc0;subst hm0
  have hys:us=[]:=List.eq_nil_of_length_eq_zero (by simpa using hlen)
  subst hys
  exact ⟨a1,c1,w,run_append_owned_none (P:=Tryd.prog) (w:=w) base t ty e i0 k ht.under hi0 _ n1 _ hown.1,by simpa using hown,World.grownBy.refl w _⟩
 | some ad =>
  obtain ⟨v',w',hr,hown',hgrow,_⟩:=run_append_own (P:=Tryd.prog) w base t ty e i0 z k bytes ht.under hi0 hz0 hz1 hz2 hz3 ht.pos _ n1 _ hown.1 ad m c us hlen (fun j u hj=>by
   have hjm:j<m*k:=by have:=(List.getElem?_eq_some_iff.1 hj).1;omega
   have hm0:0<m:=by
    rcases Nat.eq_zero_or_pos m with h | h
    ·subst h;simp at hjm
    ·exact h
   obtain ⟨b,off,hab,_,_,hcell⟩:=hI.open hm0
   obtain rfl:ad=⟨b,off,none⟩:=by simpa using hab
   rw [Addr.add_lit];exact hcell j u hj) hI.2.2.2.1 (by unfold maxLen;omega) (by
    have h1:=ht.small
    have h2:(n1+m)*bytes≤16777216*4096:=Nat.mul_le_mul hb h1
    omega) hbase
  obtain ⟨a',c',rfl⟩:∃ a' c',v'=.slice a' (n1+m) c':=by
   rcases hown'.2 with ⟨rfl,hz⟩ | ⟨g,cap,cur,rfl,_⟩
   ·exact ⟨none,0,by rw [hz]⟩
   ·exact ⟨_,_,rfl⟩
  exact ⟨a',c',w',hr,⟨hown',h1c⟩,hgrow⟩
end Go.Proofs.YtkohkoiegmcghaaDoor
