/- Lemmas for the proof of FnExactMaximumPacking, part 1 of 27: no condition of their own. -/
import Derived.Test.YteiaofkgbdlpoaaDoorRows
import Derived.WalkKit
import Derived.WalkSpells
import Derived.WalkLawsBesides
import Derived.Deep.QuietTactic
import Derived.BigQuiet
import Derived.Deep.LoopGhost
import Derived.Laws.AppendOwnNone
import Derived.Deep.Slices
import Derived.Deep.RegionHeld3
namespace Go.Proofs.YteiaofkgbdlpoaaDoor
set_option linter.unusedSimpArgs false
set_option linter.unusedVariables false
open Go.RowKit
theorem hid {p:Prop} (h:p):Hid p:=h
def ix (xs:List Int) (i:Nat):Int:=xs.getD i 0
theorem ix_lt {xs:List Int} {i:Nat} (h:i<xs.length):ix xs i=xs[i]:=by simp [ix,h]
def I64 (x:Int):Prop:=-9223372036854775808≤x∧x≤9223372036854775807
def IntsA (fz:Bool) (lo hi:Nat) (w:World) (a:Option Addr) (n c:Nat) (xs:List Int):Prop :=
 xs.length=n∧n≤c∧c≤maxLen∧(∀ x∈xs,I64 x)∧(0<n→∃ b off,a=some ⟨b,off,none⟩∧lo≤b∧b<hi∧∀ i,i<n→w.cell? ⟨b,off+i,none⟩=some (.int .i64 (ix xs i))∧(fz=true→w.frozen? ⟨b,off+i,none⟩=false))∧(a=none→c=0)
theorem IntsA.len {fz:Bool} {lo hi:Nat} {w:World} {a:Option Addr} {n c:Nat} {xs:List Int} (h:IntsA fz lo hi w a n c xs):xs.length=n:=h.1
theorem IntsA.small {fz:Bool} {lo hi:Nat} {w:World} {a:Option Addr} {n c:Nat} {xs:List Int} (h:IntsA fz lo hi w a n c xs):n≤9223372036854775807:=by
 have h1:=h.2.1;have h2:=h.2.2.1;unfold maxLen at h2;omega
theorem IntsA.at {fz:Bool} {lo hi:Nat} {w:World} {a:Option Addr} {n c:Nat} {xs:List Int} (h:IntsA fz lo hi w a n c xs) {i:Nat} (hi':i<n):I64 (ix xs i):=by
 have:=h.1;rw [ix_lt (by omega)];exact h.2.2.2.1 _ (List.getElem_mem _)
theorem IntsA.open {fz:Bool} {lo hi:Nat} {w:World} {a:Option Addr} {n c:Nat} {xs:List Int} (h:IntsA fz lo hi w a n c xs) (hn:0<n) :
 ∃ b off,a=some ⟨b,off,none⟩∧lo≤b∧b<hi∧(∀ i,i<n→w.cell? ⟨b,off+i,none⟩=some (.int .i64 (ix xs i)))∧(fz=true→∀ i,i<n→w.frozen? ⟨b,off+i,none⟩=false):=by
 obtain ⟨b,off,h1,h2,h3,h4⟩:=h.2.2.2.2.1 hn
 exact ⟨b,off,h1,h2,h3,fun i hi=>(h4 i hi).1,fun hf i hi=>(h4 i hi).2 hf⟩
def Keeps (lo hi:Nat) (w w':World):Prop:=∀ k,lo≤k→k<hi→w'.heap[k]? = w.heap[k]?
theorem Keeps.refl (lo hi:Nat) (w:World):Keeps lo hi w w:=fun _ _ _=>rfl
theorem Keeps.trans {lo hi:Nat} {a b c:World} (h:Keeps lo hi a b) (k:Keeps lo hi b c):Keeps lo hi a c:=fun i h1 h2=>(k i h1 h2).trans (h i h1 h2)
theorem Keeps.of_below {B lo hi:Nat} {w w':World} (h:Below B w w') (hh:hi≤B):Keeps lo hi w w':=fun k _ h2=>h.block k (by omega)
theorem Keeps.mono {lo hi lo' hi':Nat} {w w':World} (h:Keeps lo hi w w') (h1:lo≤lo') (h2:hi'≤hi):Keeps lo' hi' w w':=fun k a b=>h k (by omega) (by omega)
theorem Keeps.drewN (lo hi:Nat) (w:World) (n:Nat):Keeps lo hi w (w.drewN n):=fun _ _ _=>rfl
theorem IntsA.keep {fz:Bool} {lo hi:Nat} {w w':World} {a:Option Addr} {n c:Nat} {xs:List Int} (h:IntsA fz lo hi w a n c xs) (hk:Keeps lo hi w w'):IntsA fz lo hi w' a n c xs:=by
 obtain ⟨h1,h2,h3,h4,h5,h6⟩:=h
 refine ⟨h1,h2,h3,h4,fun hn=>?_,h6⟩
 obtain ⟨b,off,ha,hl,hb,hc⟩:=h5 hn
 refine ⟨b,off,ha,hl,hb,fun i hi=>⟨?_,fun hf=>?_⟩⟩
 ·rw [World.cell?_of_block (w:=w) (hk b hl hb)];exact (hc i hi).1
 ·rw [World.frozen?_of_block (w:=w) (hk b hl hb)];exact (hc i hi).2 hf
theorem IntsA.wide {fz:Bool} {lo hi lo' hi':Nat} {w:World} {a:Option Addr} {n c:Nat} {xs:List Int} (h:IntsA fz lo hi w a n c xs) (h1:lo'≤lo) (h2:hi≤hi'):IntsA fz lo' hi' w a n c xs:=by
 obtain ⟨g1,g2,g3,g4,g5,g6⟩:=h
 refine ⟨g1,g2,g3,g4,fun hn=>?_,g6⟩
 obtain ⟨b,off,ha,hl,hb,hc⟩:=g5 hn
 exact ⟨b,off,ha,by omega,by omega,hc⟩
theorem IntsA.read {fz:Bool} {lo hi:Nat} {w:World} {a:Option Addr} {n c:Nat} {xs:List Int} (h:IntsA fz lo hi w a n c xs):IntsA false lo hi w a n c xs:=by
 obtain ⟨g1,g2,g3,g4,g5,g6⟩:=h
 refine ⟨g1,g2,g3,g4,fun hn=>?_,g6⟩
 obtain ⟨b,off,ha,hl,hb,hc⟩:=g5 hn
 exact ⟨b,off,ha,hl,hb,fun i hi=>⟨(hc i hi).1,fun h=>by cases h⟩⟩
theorem IntsA.drewN {fz:Bool} {lo hi:Nat} {w:World} {a:Option Addr} {n c:Nat} {xs:List Int} (h:IntsA fz lo hi w a n c xs) (k:Nat):IntsA fz lo hi (w.drewN k) a n c xs:=h
def Gives (w:World) (v:Value) (e:Ending) (w':World):Prop:=e=.returned v∧∃ k,w'=w.drewN k
theorem dd {w:World} {n m:Nat}:(w.drewN n).drewN m=w.drewN (n+m):=World.drewN_drewN ..
theorem keeps_dr {w w':World} (lo hi:Nat) (h:∃ k,w'=w.drewN k):Keeps lo hi w w':=by obtain ⟨k,rfl⟩:=h;exact Keeps.drewN lo hi w k
theorem dr_more {w w':World} (h:∃ k,w'=w.drewN k) (m:Nat):∃ k,w'.drewN m=w.drewN k:=by obtain ⟨k,rfl⟩:=h;exact ⟨_,dd⟩
theorem ret_bool {a b:Bool} (h:a=b):Ending.returned (.bool a)=.returned (.bool b):=by rw [h]
theorem ret_int {k:IntKind} {a b:Int} (h:a=b):Ending.returned (.int k a)=.returned (.int k b):=by rw [h]
theorem below_drewN {B:Nat} {a w:World} (h:Below B a w) (k:Nat):Below B a (w.drewN k):=⟨h.os,h.tape,h.output,h.size,h.block⟩
theorem Below.calm {a b c:World} (h:Below a.heap.size a b) (k:Below b.heap.size b c):Below a.heap.size a c:=h.trans (k.mono h.size)
def Own (base:Nat) (w:World) (a:Option Addr) (n c:Nat) (xs:List Int):Prop :=
 w.ownsRow base 3 1 (.slice a n c) n (xs.map (Value.int .i64))∧∀ x∈xs,I64 x
theorem Own.len {base:Nat} {w:World} {a:Option Addr} {n c:Nat} {xs:List Int} (h:Own base w a n c xs):xs.length=n:=by
 have:=h.1.1;simpa using this
theorem Own.ints {base:Nat} {w:World} {a:Option Addr} {n c:Nat} {xs:List Int} (h:Own base w a n c xs):IntsA true base w.heap.size w a n c xs:=by
 have hlen:=h.len
 obtain ⟨ho,h64⟩:=h
 have ho':=ho
 obtain ⟨h1,h2⟩:=ho
 rcases h2 with ⟨h2,h3⟩ | ⟨g,cap,cur,hv,hb,hg,hnc,hcm,hcs,htake⟩
 ·simp only [Value.slice.injEq] at h2
  obtain ⟨rfl,rfl,rfl⟩:=h2
  exact ⟨hlen,Nat.zero_le _,by simp [maxLen],h64,fun h=>by omega,fun _=>rfl⟩
 ·simp only [Value.slice.injEq] at hv
  obtain ⟨rfl,_,rfl⟩:=hv
  refine ⟨hlen,hnc,hcm,h64,fun _=>⟨g,0,rfl,hb,(Array.getElem?_eq_some_iff.1 hg).1,fun i hi=>⟨?_,fun _=>?_⟩⟩,fun h=>(by cases h)⟩
  ·have h5:=ho'.cells (g:=g) rfl i (.int .i64 (ix xs i)) (by rw [List.getElem?_map,List.getElem?_eq_getElem (by omega),ix_lt (by omega)];rfl)
   rwa [Addr.add_lit] at h5
  ·exact frozen_of_row w g (0+i) cur _ hg
theorem Own.keep {base:Nat} {w w':World} {a:Option Addr} {n c:Nat} {xs:List Int} (h:Own base w a n c xs) (hk:Keeps base w.heap.size w w'):Own base w' a n c xs:=by
 obtain ⟨⟨h1,h2⟩,h64⟩:=h
 refine ⟨⟨h1,?_⟩,h64⟩
 rcases h2 with h2 | ⟨g,cap,cur,hv,hb,hg,rest⟩
 ·exact .inl h2
 ·exact .inr ⟨g,cap,cur,hv,hb,by rw [hk g hb (Array.getElem?_eq_some_iff.1 hg).1];exact hg,rest⟩
theorem Own.drewN {base:Nat} {w:World} {a:Option Addr} {n c:Nat} {xs:List Int} (h:Own base w a n c xs) (k:Nat):Own base (w.drewN k) a n c xs:=h
theorem Own.low {base base':Nat} {w:World} {a:Option Addr} {n c:Nat} {xs:List Int} (h:Own base w a n c xs) (hb:base'≤base):Own base' w a n c xs:=by
 obtain ⟨⟨h1,h2⟩,h64⟩:=h
 refine ⟨⟨h1,?_⟩,h64⟩
 rcases h2 with h2 | ⟨g,cap,cur,hv,hb',rest⟩
 ·exact .inl h2
 ·exact .inr ⟨g,cap,cur,hv,by omega,rest⟩
def GivesOwn (w:World) (xs:List Int) (e:Ending) (w':World):Prop :=
 ∃ a n c,e=.returned (.slice a n c)∧Own w.heap.size w' a n c xs∧Below w.heap.size w w'
def Leaves (w:World) (v:Value) (e:Ending) (w':World):Prop:=e=.returned v∧Below w.heap.size w w'
theorem intsA_nil (w:World):IntsA false 0 w.heap.size w none 0 0 []:=⟨rfl,Nat.le_refl _,by simp [maxLen],(fun _ h=>(by cases h)),(fun h=>by omega),fun _=>rfl⟩
theorem i64_of_wf {x:Int} (h:(Lit.int .i64 x).wf=true):I64 x:=by
 simp [Lit.wf,IntKind.min,IntKind.max,IntKind.bits,IntKind.signed] at h
 unfold I64;omega
theorem intsA_of_cells {w:World} {x:Addr} {len cap:Nat} {zs:List Int} (hl:len≤cap) (hm:cap≤maxLen) (hz:zs.length=cap)
 (hc:∀ i,i<zs.length→w.cell? (x.add i)=some (.int .i64 (zs.getD i 0))) (hw:∀ n∈zs,(Lit.int .i64 n).wf=true):IntsA false 0 w.heap.size w (some x) len cap (zs.take len):=by
 refine ⟨by simp;omega,hl,hm,fun n hn=>i64_of_wf (hw n (List.mem_of_mem_take hn)),fun h0=>?_,fun h=>(by cases h)⟩
 obtain ⟨b,off,spot⟩:=x
 have h1:=hc 0 (by omega)
 have hspot:spot=none:=by
  cases spot with
  | none=>rfl
  | some s=>simp [Addr.add,World.cell?] at h1;split at h1 <;> simp at h1
 subst hspot
 refine ⟨b,off,rfl,Nat.zero_le _,?_,fun i hi=>⟨?_,fun h=>by cases h⟩⟩
 ·have:=World.block_lt_of_cell? w _ h1;simpa [Addr.add] using this
 ·have:=hc i (by omega)
  rw [Addr.add_lit] at this
  rw [this];simp [ix,hi]
theorem infoInt:(Tryd.prog.info? 3).map (fun i=>(i.zero,i.size,i.bytes))=some (some (.int .i64 0),1,8):=by kernel_rfl
abbrev Rep (α:Type):=Bool→Nat→Nat→World→List Value→α→Prop
structure RepOK {α:Type} (R:Rep α):Prop where
 keep:∀ {fz lo hi w w' cs x},R fz lo hi w cs x→Keeps lo hi w w'→R fz lo hi w' cs x
 wide:∀ {fz lo hi lo' hi' w cs x},R fz lo hi w cs x→lo'≤lo→hi≤hi'→R fz lo' hi' w cs x
 read:∀ {fz lo hi w cs x},R fz lo hi w cs x→R false lo hi w cs x
def SlA {α:Type} (k:Nat) (R:Rep α) (fz:Bool) (lo hi:Nat) (w:World) (a:Option Addr) (n c:Nat) (xs:List α):Prop :=
 xs.length=n∧n≤c∧c≤maxLen∧(0<n→∃ b off,a=some ⟨b,off,none⟩∧lo≤b∧b<hi∧∀ i,i<n→∃ cs x,cs.length=k∧xs[i]? = some x∧R fz lo hi w cs x ∧
  ∀ j,j<k→w.cell? ⟨b,off+i*k+j,none⟩=some (cs.getD j undef)∧(fz=true→w.frozen? ⟨b,off+i*k+j,none⟩=false))∧(a=none→c=0)
section
variable {α:Type} {k:Nat} {R:Rep α} {fz:Bool} {lo hi lo' hi':Nat} {w w':World} {a:Option Addr} {n c:Nat} {xs:List α}
theorem SlA.len (h:SlA k R fz lo hi w a n c xs):xs.length=n:=h.1
theorem SlA.small (h:SlA k R fz lo hi w a n c xs):n≤9223372036854775807:=by
 have h1:=h.2.1;have h2:=h.2.2.1;unfold maxLen at h2;omega
theorem SlA.open (h:SlA k R fz lo hi w a n c xs) (hn:0<n):∃ b off,a=some ⟨b,off,none⟩∧lo≤b∧b<hi∧∀ i,i<n→∃ cs x,cs.length=k∧xs[i]? = some x∧R fz lo hi w cs x ∧
 ∀ j,j<k→w.cell? ⟨b,off+i*k+j,none⟩=some (cs.getD j undef)∧(fz=true→w.frozen? ⟨b,off+i*k+j,none⟩=false):=h.2.2.2.1 hn
theorem SlA.keep (ok:RepOK R) (h:SlA k R fz lo hi w a n c xs) (hk:Keeps lo hi w w'):SlA k R fz lo hi w' a n c xs:=by
 obtain ⟨h1,h2,h3,h4,h5⟩:=h
 refine ⟨h1,h2,h3,fun hn=>?_,h5⟩
 obtain ⟨b,off,ha,hl,hb,hc⟩:=h4 hn
 refine ⟨b,off,ha,hl,hb,fun i hi=>?_⟩
 obtain ⟨cs,x,g1,g2,g3,g4⟩:=hc i hi
 refine ⟨cs,x,g1,g2,ok.keep g3 hk,fun j hj=>⟨?_,fun hf=>?_⟩⟩
 ·rw [World.cell?_of_block (w:=w) (hk b hl hb)];exact (g4 j hj).1
 ·rw [World.frozen?_of_block (w:=w) (hk b hl hb)];exact (g4 j hj).2 hf
theorem SlA.drewN (ok:RepOK R) (h:SlA k R fz lo hi w a n c xs) (m:Nat):SlA k R fz lo hi (w.drewN m) a n c xs:=h.keep ok (Keeps.drewN lo hi w m)
theorem SlA.wide (ok:RepOK R) (h:SlA k R fz lo hi w a n c xs) (h1:lo'≤lo) (h2:hi≤hi'):SlA k R fz lo' hi' w a n c xs:=by
 obtain ⟨g1,g2,g3,g4,g5⟩:=h
 refine ⟨g1,g2,g3,fun hn=>?_,g5⟩
 obtain ⟨b,off,ha,hl,hb,hc⟩:=g4 hn
 refine ⟨b,off,ha,by omega,by omega,fun i hi=>?_⟩
 obtain ⟨cs,x,g1,g2,g3,g4⟩:=hc i hi
 exact ⟨cs,x,g1,g2,ok.wide g3 h1 h2,g4⟩
theorem SlA.read (ok:RepOK R) (h:SlA k R fz lo hi w a n c xs):SlA k R false lo hi w a n c xs:=by
 obtain ⟨g1,g2,g3,g4,g5⟩:=h
 refine ⟨g1,g2,g3,fun hn=>?_,g5⟩
 obtain ⟨b,off,ha,hl,hb,hc⟩:=g4 hn
 refine ⟨b,off,ha,hl,hb,fun i hi=>?_⟩
 obtain ⟨cs,x,g1,g2,g3,g4⟩:=hc i hi
 exact ⟨cs,x,g1,g2,ok.read g3,fun j hj=>⟨(g4 j hj).1,fun h=>(by cases h)⟩⟩
end
def intsR:Rep (List Int):=fun fz lo hi w cs xs=>∃ a n c,cs=[.slice a n c]∧IntsA fz lo hi w a n c xs
theorem intsOK:RepOK intsR :=
 ⟨fun ⟨a,n,c,h1,h2⟩ hk=>⟨a,n,c,h1,h2.keep hk⟩,fun ⟨a,n,c,h1,h2⟩ g1 g2=>⟨a,n,c,h1,h2.wide g1 g2⟩,fun ⟨a,n,c,h1,h2⟩=>⟨a,n,c,h1,h2.read⟩⟩
abbrev RowsA:=SlA 1 intsR
def rx (xss:List (List Int)) (i:Nat):List Int:=xss.getD i []
theorem RowsA.at {fz:Bool} {lo hi:Nat} {w:World} {b off n c:Nat} {xss:List (List Int)} (h:RowsA fz lo hi w (some ⟨b,off,none⟩) n c xss) {i:Nat} (hi':i<n) :
 lo≤b∧b<hi∧∃ ra rn rc,w.cell? ⟨b,off+i,none⟩=some (.slice ra rn rc)∧IntsA fz lo hi w ra rn rc (rx xss i)∧(fz=true→w.frozen? ⟨b,off+i,none⟩=false):=by
 obtain ⟨b',off',ha,hl,hb,hc⟩:=h.open (by omega)
 simp only [Option.some.injEq,Addr.mk.injEq,and_true] at ha
 obtain ⟨rfl,rfl⟩:=ha
 obtain ⟨cs,x,g1,g2,⟨ra,rn,rc,rfl,g3⟩,g4⟩:=hc i hi'
 have g5:=g4 0 (by omega)
 have hx:rx xss i=x:=by simp [rx,g2]
 refine ⟨hl,hb,ra,rn,rc,by simpa using g5.1,by rw [hx];exact g3,by simpa using g5.2⟩
theorem RowsA.some {fz:Bool} {lo hi:Nat} {w:World} {a:Option Addr} {n c:Nat} {xss:List (List Int)} (h:RowsA fz lo hi w a n c xss) (hn:0<n):∃ b off,a=some ⟨b,off,none⟩:=by
 obtain ⟨b,off,ha,_⟩:=h.open hn
 exact ⟨b,off,ha⟩
theorem wpApp {fz:Bool} {lo hi:Nat} {w:World} {ops:Array Oper} {rest:List Oper} {o:Oper} {a:Act} {Q:Exit→Act→World→Prop} (hgd:o.guard=none) (s x:Operand)
 (ho:o.op=.call { callee:=.builtin .append,args:=#[s,x],argTypes:=#[23,23] })
 (base:Nat) (a1:Option Addr) (n1 c1:Nat) (xs:List Int) (hs:a.eval s=.slice a1 n1 c1) (hown:Own base w a1 n1 c1 xs)
 (ao:Option Addr) (m c:Nat) (ys:List Int) (hx:a.eval x=.slice ao m c) (hI:IntsA fz lo hi w ao m c ys) (hb:n1+m≤8796093022208) (hbase:base≤w.heap.size)
 (h:∀ a' c' w',Own base w' a' (n1+m) c' (xs ++ ys)→w.grownBy w' (Value.slice a1 n1 c1).ownBlock→wpList Tryd.prog ops Q rest (a.put o.dst (.slice a' (n1+m) c')) w') :
 wpList Tryd.prog ops Q (o :: rest) a w:=by
 obtain ⟨i0,hi0,hz0,hz1,hz2⟩:=info_parts infoInt
 have h64:∀ z∈xs ++ ys,I64 z:=fun z hz=>(List.mem_append.1 hz).elim (hown.2 z) (hI.2.2.2.1 z)
 have hlen:=hI.len
 cases ao with
 | none =>
  have hc0:=hI.2.2.2.2.2 rfl
  have hm0:m=0:=by have:=hI.2.1;omega
  subst hc0;subst hm0
  have hys:ys=[]:=List.eq_nil_of_length_eq_zero hlen
  subst hys
  refine wpList_append_own_none hgd s x 23 ho base 3 i0 1 Tryd.underlying23 hi0 _ n1 _ hs hown.1 hx ?_
  exact h a1 c1 w (by simpa using hown) (World.grownBy.refl w _)
 | some ad =>
  refine wpList_append_own w hgd s x 23 ho base 3 i0 (.int .i64 0) 1 8 Tryd.underlying23 hi0 hz0 hz1 hz2 rfl (by decide) _ n1 _ hs hown.1 ad m c (ys.map (Value.int .i64)) hx (by simp [hlen]) ?_ ?_ (by unfold maxLen;omega) (by omega) hbase ?_
  ·intro j u hj
   have hjm:j<m:=by have:=(List.getElem?_eq_some_iff.1 hj).1;simpa [hlen] using this
   obtain ⟨b,off,hab,_,_,hcell,_⟩:=hI.open (by omega)
   obtain rfl:ad=⟨b,off,none⟩:=by simpa using hab
   rw [Addr.add_lit,hcell j hjm,ix_lt (by omega)]
   rw [List.getElem?_map,List.getElem?_eq_getElem (by omega)] at hj
   simpa using hj
  ·exact ints_oneCell .i64 ys
  ·intro v' w' hown' hgrow _
   obtain ⟨a',c',rfl⟩:∃ a' c',v'=.slice a' (n1+m) c':=by
    rcases hown'.2 with ⟨rfl,hz⟩ | ⟨g,cap,cur,rfl,_⟩
    ·exact ⟨none,0,by rw [hz]⟩
    ·exact ⟨_,_,rfl⟩
   exact h a' c' w' ⟨by simpa using hown',h64⟩ hgrow
theorem one_ints (w:World) (x:Int) (T:TypeId) (hx:I64 x):IntsA true w.heap.size (w.heap.size+1) (w.alloc (.cells #[.int .i64 x] T)) (some ⟨w.heap.size,0,none⟩) 1 1 [x]:=by
 refine ⟨rfl,Nat.le_refl _,by simp [maxLen],by simpa using hx,fun _=>⟨_,0,rfl,Nat.le_refl _,by omega,fun i hi=>?_⟩,fun h=>(by cases h)⟩
 obtain rfl:i=0:=by omega
 exact ⟨by simp [ix],fun _=>by simp⟩
theorem Own.alloc {base:Nat} {w:World} {a:Option Addr} {n c:Nat} {xs:List Int} (h:Own base w a n c xs) (o:Obj):Own base (w.alloc o) a n c xs:=⟨h.1.alloc o,h.2⟩
theorem own_nil (w:World) (base:Nat):Own base w none 0 0 []:=⟨World.ownsRow_nil ..,fun _ h=>(by cases h)⟩
theorem ho0' {B:Nat} {w wr w1:World} {o:Obj} {a:Option Addr} {n c:Nat} {xs:List Int} (h:Own B wr a n c xs) (hb:Below B w wr) (hB:B≤wr.heap.size) (hg:(wr.alloc o).grownBy w1 (Value.slice a n c).ownBlock):Below B w w1 :=
 (hb.alloc hB o).grown hg (by simp;omega) (fun k hk=>by have:=h.1.lt k hk;omega)
theorem Own.grown {base B:Nat} {w0 w w':World} {a:Option Addr} {n c:Nat} {xs:List Int} (h:Own base w a n c xs) (hg:w.grownBy w' (Value.slice a n c).ownBlock) (hb:Below B w0 w) (hB:B≤base) (hB2:B≤w.heap.size):Below B w0 w' :=
 hb.grown hg hB2 (fun k hk=>by have:=h.1.lt k hk;omega)
end Go.Proofs.YteiaofkgbdlpoaaDoor
namespace Go.Proofs.YteiaofkgbdlpoaaDoor
set_option linter.unusedSimpArgs false
set_option linter.unusedVariables false
open Go.RowKit
def AscTo (xs:List Int) (k:Nat):Prop:=∀ i,i+1<k→ix xs i<ix xs (i+1)
noncomputable def ascB (xs:List Int):Bool:=@decide (AscTo xs xs.length) (Classical.propDecidable _)
open Classical in
noncomputable def firstIx (p:Nat→Prop):Nat→Nat
 | 0=>0
 | n+1=>if firstIx p n<n then firstIx p n else if p n then n else n+1
theorem firstIx_le (p:Nat→Prop) (n:Nat):firstIx p n≤n:=by
 induction n with
 | zero=>simp [firstIx]
 | succ n ih =>simp only [firstIx];split;· omega
               split <;> omega
theorem firstIx_none {p:Nat→Prop} {n:Nat} (h:∀ i,i<n→¬ p i):firstIx p n=n:=by
 induction n with
 | zero=>simp [firstIx]
 | succ n ih=>simp only [firstIx];rw [if_neg (by rw [ih fun i hi=>h i (by omega)];omega),if_neg (h n (by omega))]
theorem firstIx_eq {p:Nat→Prop} {n i:Nat} (hi:i<n) (hp:p i) (h:∀ j,j<i→¬ p j):firstIx p n=i:=by
 induction n with
 | zero=>omega
 | succ n ih =>
  simp only [firstIx]
  by_cases e:i=n
  ·subst e;rw [firstIx_none h,if_neg (by omega),if_pos hp]
  ·have:=ih (by omega);rw [this,if_pos (by omega)]
noncomputable def findF (xs:List Int) (v:Int):Int:=if firstIx (fun i=>ix xs i=v) xs.length<xs.length then (firstIx (fun i=>ix xs i=v) xs.length:Nat) else -1
theorem findF_none {xs:List Int} {v:Int} (h:∀ i,i<xs.length→ix xs i ≠ v):findF xs v = -1:=by
 unfold findF;rw [firstIx_none h,if_neg (by omega)]
theorem findF_eq {xs:List Int} {v:Int} {i:Nat} (hi:i<xs.length) (hp:ix xs i=v) (h:∀ j,j<i→ix xs j ≠ v):findF xs v=i:=by
 unfold findF;rw [firstIx_eq (p:=fun i=>ix xs i=v) hi hp h,if_pos hi]
noncomputable def seekF (xs:List Int) (from' v:Int):Int:=(firstIx (fun i=>from'≤(i:Int)∧v≤ix xs i) xs.length:Nat)
def eqL (xs ys:List Int):Bool:=decide (xs=ys)
theorem ix_ext {xs ys:List Int} (hl:xs.length=ys.length) (h:∀ i,i<xs.length→ix xs i=ix ys i):xs=ys :=
 List.ext_getElem hl fun i h1 h2=>by have:=h i h1;rwa [ix_lt h1,ix_lt h2] at this
theorem eqL_len {xs ys:List Int} (h:xs.length ≠ ys.length):eqL xs ys=false:=by simp only [eqL,decide_eq_false_iff_not];rintro rfl;exact h rfl
theorem eqL_ne {xs ys:List Int} {i:Nat} (h:ix xs i ≠ ix ys i):eqL xs ys=false:=by simp only [eqL,decide_eq_false_iff_not];rintro rfl;exact h rfl
theorem eqL_true {xs ys:List Int} (hl:xs.length=ys.length) (h:∀ i,i<xs.length→ix xs i=ix ys i):eqL xs ys=true:=by simp [eqL,ix_ext hl h]
set_option maxHeartbeats 400000 in
theorem implIndexOf {fz:Bool} {lo hi:Nat} (a:Option Addr) (n c:Nat) (xs:List Int) (v:Int) (w:World) (h:IntsA fz lo hi w a n c xs) :
 Calls Tryd.prog 75 #[.slice a n c,.int .i64 v] w (Gives w (.int .i64 (findF xs v))):=by
 have hl:=h.len
 have hs:=h.small
 go_enter Tryd.func75,Tryd.ntmps75
 go_wp2
 go_loopw [9] (fun i wr=>∃ k:Nat,i=.int .i64 k∧k≤n∧(∀ j,j<k→ix xs j ≠ v)∧∃ m,wr=w.drewN m) (fun i _=>n - (intOf i).toNat)
 case atStart=>exact ⟨0,rfl,by omega,fun i hi=>by omega,0,rfl⟩
 case round =>
  obtain ⟨k,rfl,hk2,hA,m,rfl⟩:=hrel
  have HA:=hid hA;clear hA
  have HL:=hid hl;clear hl
  by_cases hlt:k<n
  ·obtain ⟨b,off,rfl,_,_,hc,_⟩:=h.open (by omega)
   have c0:=hc k (by omega)
   clear hc
   by_cases he:ix xs k=v
   ·have hb:(ix xs k == v)=true:=by simp [he]
    have He:=hid he;clear he
    go_wp2
    go_ret
    exact ⟨ret_int (findF_eq (by rw [HL.out];exact hlt) He.out HA.out).symm,_,rfl⟩
   ·have hb:(ix xs k == v)=false:=by simp [he]
    go_wp2
    go_roundw
    case rel=>exact ⟨k+1,by go_num,by omega,fun i hi=>by
     by_cases e:i=k
     ·subst e;assumption
     ·exact HA.out i (by omega),by first | exact ⟨_,rfl⟩ | exact ⟨_,dd⟩⟩
    case measure=>simp [intOf];omega
  ·go_wp2
   go_ret
   exact ⟨ret_int (findF_none (by rw [HL.out];intro i hi;exact HA.out i (by omega))).symm,_,rfl⟩
set_option maxHeartbeats 400000 in
theorem specFind {fz:Bool} {lo hi:Nat} (a:Option Addr) (n c:Nat) (xs:List Int) (v:Int) (w:World) (h:IntsA fz lo hi w a n c xs) :
 Calls Tryd.prog 48 #[.slice a n c,.int .i64 v] w (Gives w (.int .i64 (findF xs v))):=by
 have hl:=h.len
 have hs:=h.small
 go_enter Tryd.func48,Tryd.ntmps48
 go_wp2
 go_loopw [5] (fun i wr=>∃ k:Nat,i=.int .i64 k∧k≤n∧(∀ j,j<k→ix xs j ≠ v)∧∃ m,wr=w.drewN m) (fun i _=>n - (intOf i).toNat)
 case atStart=>exact ⟨0,rfl,by omega,fun i hi=>by omega,0,rfl⟩
 case round =>
  obtain ⟨k,rfl,hk2,hA,m,rfl⟩:=hrel
  have HA:=hid hA;clear hA
  have HL:=hid hl;clear hl
  by_cases hlt:k<n
  ·obtain ⟨b,off,rfl,_,_,hc,_⟩:=h.open (by omega)
   have c0:=hc k (by omega)
   clear hc
   by_cases he:ix xs k=v
   ·have hb:(ix xs k == v)=true:=by simp [he]
    have He:=hid he;clear he
    go_wp2
    go_ret
    exact ⟨ret_int (findF_eq (by rw [HL.out];exact hlt) He.out HA.out).symm,_,rfl⟩
   ·have hb:(ix xs k == v)=false:=by simp [he]
    go_wp2
    go_roundw
    case rel=>exact ⟨k+1,by go_num,by omega,fun i hi=>by
     by_cases e:i=k
     ·subst e;assumption
     ·exact HA.out i (by omega),by first | exact ⟨_,rfl⟩ | exact ⟨_,dd⟩⟩
    case measure=>simp [intOf];omega
  ·go_wp2
   go_ret
   exact ⟨ret_int (findF_none (by rw [HL.out];intro i hi;exact HA.out i (by omega))).symm,_,rfl⟩
theorem implHasInt {fz:Bool} {lo hi:Nat} (a:Option Addr) (n c:Nat) (xs:List Int) (v:Int) (w:World) (h:IntsA fz lo hi w a n c xs) :
 Calls Tryd.prog 65 #[.slice a n c,.int .i64 v] w (Gives w (.bool (decide (0≤findF xs v)))):=by
 go_enter Tryd.func65,Tryd.ntmps65
 go_wp2_with (go_at_call 75;refine (implIndexOf a n c xs v w h).mono ?_;rintro e w' ⟨rfl,m,rfl⟩)
 go_ret
 exact ⟨rfl,_,rfl⟩
set_option maxHeartbeats 400000 in
theorem eqInts {fz fz':Bool} {lo hi lo' hi':Nat} (a a':Option Addr) (n c n' c':Nat) (xs ys:List Int) (w:World) (hI:IntsA fz lo hi w a n c xs) (hJ:IntsA fz' lo' hi' w a' n' c' ys) :
 Calls Tryd.prog 34 #[.slice a n c,.slice a' n' c'] w (Gives w (.bool (eqL xs ys))):=by
 have hl:=hI.len
 have hs:=hI.small
 have hl':=hJ.len
 have hs':=hJ.small
 have HL:=hid hl;clear hl
 have HL':=hid hl';clear hl'
 by_cases hn:n=n'
 ·subst hn
  go_enter Tryd.func34,Tryd.ntmps34
  go_wp2
  go_loopw [5] (fun i wr=>∃ k:Nat,i=.int .i64 k∧k≤n∧(∀ j,j<k→ix xs j=ix ys j)∧∃ m,wr=w.drewN m) (fun i _=>n - (intOf i).toNat)
  case atStart=>exact ⟨0,rfl,by omega,fun i hi=>by omega,0,rfl⟩
  case round =>
   obtain ⟨k,rfl,hk2,hA,m,rfl⟩:=hrel
   have HA:=hid hA;clear hA
   by_cases hlt:k<n
   ·obtain ⟨b,off,rfl,_,_,hc,_⟩:=hI.open (by omega)
    obtain ⟨b',off',rfl,_,_,hc',_⟩:=hJ.open (by omega)
    have c0:=hc k (by omega)
    have c1:=hc' k (by omega)
    clear hc hc'
    by_cases he:ix xs k=ix ys k
    ·have hb:(ix xs k != ix ys k)=false:=by simp [he]
     have He:=hid he;clear he
     go_wp2
     go_quiet (fail)
     go_wp2
     go_roundw
     case rel=>exact ⟨k+1,by go_num,by omega,fun i hi=>by
      by_cases e:i=k
      ·subst e;exact He.out
      ·exact HA.out i (by omega),by first | exact ⟨_,rfl⟩ | exact ⟨_,dd⟩⟩
     case measure=>simp [intOf];omega
    ·have hb:(ix xs k != ix ys k)=true:=by simp [he]
     have He:=hid he;clear he
     go_wp2
     go_quiet (fail)
     go_wp2
     go_ret
     exact ⟨ret_bool (eqL_ne He.out).symm,by first | exact ⟨_,rfl⟩ | exact ⟨_,dd⟩⟩
   ·go_wp2
    go_ret
    exact ⟨ret_bool (eqL_true (by rw [HL.out,HL'.out]) (by rw [HL.out];intro i hi;exact HA.out i (by omega))).symm,by first | exact ⟨_,rfl⟩ | exact ⟨_,dd⟩⟩
 ·have hb:((n:Int) != (n':Int))=true:=by rw [bne_iff_ne];omega
  have Hn:=hid hn;clear hn
  go_enter Tryd.func34,Tryd.ntmps34
  go_wp2
  go_ret
  exact ⟨ret_bool (eqL_len (by rw [HL.out,HL'.out];exact Hn.out)).symm,0,rfl⟩
set_option maxHeartbeats 400000 in
theorem toInts {lo hi:Nat} (a:Option Addr) (n c:Nat) (xs:List Int) (w:World) (hI:IntsA false lo hi w a n c xs) (hh:hi≤w.heap.size) (hn:n≤1048576) :
 Calls Tryd.prog 28 #[.slice a n c] w (GivesOwn w xs):=by
 have hl:=hI.len
 have HL:=hid hl;clear hl
 obtain ⟨i0,hi0,hz0,hz1,hz2⟩:=info_parts infoInt
 go_enter Tryd.func28,Tryd.ntmps28
 go_wp2_with (at_make;refine wpList_make_full _ rfl _ _ 23 rfl w.heap.size 3 i0 (.int .i64 0) 1 Tryd.underlying23 hi0 hz0 hz1 _ _ _ _ n rfl rfl rfl rfl ?b1 ?b2 ?b3 ?_)
 case b1=>rw [hz2];omega
 case b2=>unfold maxLen;omega
 case b3=>exact Nat.le_refl _
 intro w1 hown hgrow
 have hb:Below w.heap.size w w1:=(Below.refl _ _).grown hgrow (Nat.le_refl _) (fun k h=>by cases h)
 have hIw:IntsA false lo hi w1 a n c xs:=hI.keep (Keeps.of_below hb hh)
 obtain ⟨g,hg⟩:∃ g,g=w.heap.size:=⟨_,rfl⟩
 rw [← hg] at hown ⊢
 have hgw:g<w1.heap.size:=by
  have:=hown.lt g rfl;exact this.2
 have HG:=hid hg;clear hg
 have HH:=hid (And.intro hh hgrow);clear hh hgrow
 go_wp2
 go_loopw [4] (fun i wr=>∃ k:Nat,i=.int .i64 k∧k≤n∧(∃ vs,wr.ownsRow g 3 1 (.slice (some ⟨g,0,none⟩) n n) n vs∧vs.take k=(xs.take k).map (Value.int .i64))∧Below g w1 wr) (fun i _=>n - (intOf i).toNat)
 case atStart=>exact ⟨0,rfl,by omega,⟨_,hown,by simp⟩,Below.refl _ _⟩
 case round =>
  obtain ⟨k,rfl,hk2,hvs,hbr⟩:=hrel
  obtain ⟨vs,hvs,htk⟩:=hvs
  have HV:=hid hvs;clear hvs
  have HT:=hid htk;clear htk
  have HB:=hid hbr;clear hbr
  by_cases hlt:k<n
  ·have hIr:IntsA false lo hi wr a n c xs:=hIw.keep (Keeps.of_below HB.out (by rw [HG.out];exact HH.out.1))
   obtain ⟨b,off,rfl,_,_,hc,_⟩:=hIr.open (by omega)
   have c0:=hc k (by omega)
   have hlen:vs.length=n:=by have:=HV.out.1;omega
   obtain ⟨v0,c1⟩:∃ v0,wr.cell? ⟨g,k,none⟩=some v0:=by
    have:=HV.out.cells (g:=g) rfl k vs[k] (by simp [hlen,hlt])
    rw [Addr.add_lit] at this;exact ⟨_,by simpa using this⟩
   have c2:=HV.out.frozenAt k
   have hst:=HV.out.stored k (.int .i64 (ix xs k))
   have HS:=hid hst;clear hst
   have HLN:=hid hlen;clear hlen
   clear hc hIr
   go_wp2
   go_roundw
   case rel=>exact ⟨k+1,by go_num,by omega,⟨_,HS.out.1,by
    have h1:=HLN.out
    have h2:=HL.out
    rw [List.take_succ_eq_append_getElem (by simp;omega),List.take_set_of_le (by omega),HT.out,List.take_succ_eq_append_getElem (by omega),List.map_append,← ix_lt (by omega)]
    simp⟩,HB.out.grown HS.out.2 (by have:=HB.out.size;omega) (fun j hj=>by cases hj;omega)⟩
   case measure=>simp [intOf];omega
  ·go_wp2
   go_ret
   refine ⟨_,n,n,rfl,⟨?_,hI.2.2.2.1⟩,?_⟩
   ·have h1:=HV.out
    have h2:=HT.out
    have h3:vs.length=n:=by have:=h1.1;omega
    rw [List.take_of_length_le (by omega),List.take_of_length_le (by rw [HL.out];omega)] at h2
    rw [← h2,← HG.out];exact h1
   ·exact (hb.trans (HB.out.mono (by rw [HG.out];exact Nat.le_refl _)))
def lens (xss:List (List Int)):Nat→Nat
 | 0=>0
 | k+1=>lens xss k+(rx xss k).length
noncomputable def szF (xss:List (List Int)) (left:Int):Int:=if (xss.length+lens xss xss.length:Nat)≤left then left - (xss.length+lens xss xss.length:Nat) else -1
def szI (n:Nat) (left:Int):Int:=if (n:Int)≤left then left - n else -1
theorem szI_yes {n:Nat} {left:Int} (h:(n:Int)≤left):szI n left=left - n:=if_pos h
theorem szI_no {n:Nat} {left:Int} (h:¬ (n:Int)≤left):szI n left = -1:=if_neg h
set_option maxHeartbeats 400000 in
theorem szInts {fz:Bool} {lo hi:Nat} (a:Option Addr) (n c:Nat) (xs:List Int) (left:Int) (w:World) (hI:IntsA fz lo hi w a n c xs) (h0:0≤left) (h1:left≤1048576) :
 Calls Tryd.prog 24 #[.slice a n c,.int .i64 left] w (Gives w (.int .i64 (szI n left))):=by
 have hs:=hI.small
 by_cases hle:(n:Int)≤left
 ·go_enter Tryd.func24,Tryd.ntmps24
  go_wp2
  go_ret
  exact ⟨ret_int (by unfold szI;rw [if_pos (by omega)]),0,rfl⟩
 ·go_enter Tryd.func24,Tryd.ntmps24
  go_wp2
  go_ret
  exact ⟨ret_int (by unfold szI;rw [if_neg (by omega)]),0,rfl⟩
end Go.Proofs.YteiaofkgbdlpoaaDoor
namespace Go.Proofs.YteiaofkgbdlpoaaDoor
set_option linter.unusedSimpArgs false
set_option linter.unusedVariables false
open Go.RowKit
theorem implWithin (x lo hi:Int) (w:World):Calls Tryd.prog 50 #[.int .i64 x,.int .i64 lo,.int .i64 hi] w (Gives w (.bool (decide (lo≤x∧x≤hi)))):=by
 by_cases h1:lo≤x
 ·by_cases h2:x≤hi
  ·have hd:decide (lo≤x∧x≤hi)=true:=by simp;omega
   rw [hd]
   go_enter Tryd.func50,Tryd.ntmps50
   go_wp2
   go_ret
   exact ⟨rfl,0,rfl⟩
  ·have hd:decide (lo≤x∧x≤hi)=false:=by simp;omega
   rw [hd]
   go_enter Tryd.func50,Tryd.ntmps50
   go_wp2
   go_ret
   exact ⟨rfl,0,rfl⟩
 ·have hd:decide (lo≤x∧x≤hi)=false:=by simp;omega
  rw [hd]
  go_enter Tryd.func50,Tryd.ntmps50
  go_wp2
  go_ret
  exact ⟨rfl,0,rfl⟩
theorem specIn (x lo hi:Int) (w:World):Calls Tryd.prog 46 #[.int .i64 x,.int .i64 lo,.int .i64 hi] w (Gives w (.bool (decide (lo≤x∧x≤hi)))):=by
 by_cases h1:lo≤x
 ·by_cases h2:x≤hi
  ·have hd:decide (lo≤x∧x≤hi)=true:=by simp;omega
   rw [hd]
   go_enter Tryd.func46,Tryd.ntmps46
   go_wp2
   go_ret
   exact ⟨rfl,0,rfl⟩
  ·have hd:decide (lo≤x∧x≤hi)=false:=by simp;omega
   rw [hd]
   go_enter Tryd.func46,Tryd.ntmps46
   go_wp2
   go_ret
   exact ⟨rfl,0,rfl⟩
 ·have hd:decide (lo≤x∧x≤hi)=false:=by simp;omega
  rw [hd]
  go_enter Tryd.func46,Tryd.ntmps46
  go_wp2
  go_ret
  exact ⟨rfl,0,rfl⟩
theorem IntsA.take {fz:Bool} {lo hi:Nat} {w:World} {a:Option Addr} {n c:Nat} {xs:List Int} (h:IntsA fz lo hi w a n c xs) {j:Nat} (hj:j≤n):IntsA fz lo hi w a j c (xs.take j):=by
 obtain ⟨h1,h2,h3,h4,h5,h6⟩:=h
 refine ⟨by simp;omega,by omega,h3,fun z hz=>h4 z (List.mem_of_mem_take hz),fun hn=>?_,h6⟩
 obtain ⟨b,off,ha,hl,hb,hc⟩:=h5 (by omega)
 refine ⟨b,off,ha,hl,hb,fun i hi=>?_⟩
 obtain ⟨g1,g2⟩:=hc i (by omega)
 refine ⟨?_,g2⟩
 rw [g1];simp [ix,hi]
def SetTo (xs:List Int) (n:Int) (k:Nat):Prop:=∀ i,i<k→(0≤ix xs i∧ix xs i≤n - 1)∧¬ 0≤findF (xs.take i) (ix xs i)
open Classical in
noncomputable def setB (xs:List Int) (n:Int):Bool:=decide (SetTo xs n xs.length)
theorem setB_true {xs:List Int} {n:Int} (h:SetTo xs n xs.length):setB xs n=true:=by simp [setB,h]
theorem setB_false {xs:List Int} {n:Int} {i:Nat} (hi:i<xs.length) (h:¬ ((0≤ix xs i∧ix xs i≤n - 1)∧¬ 0≤findF (xs.take i) (ix xs i))):setB xs n=false:=by
 simp only [setB,decide_eq_false_iff_not];intro hh;exact h (hh i hi)
theorem SetTo.succ {xs:List Int} {n:Int} {k:Nat} (h:SetTo xs n k) (h1:(0≤ix xs k∧ix xs k≤n - 1)∧¬ 0≤findF (xs.take k) (ix xs k)):SetTo xs n (k+1):=by
 intro i hi
 by_cases e:i=k
 ·subst e;exact h1
 ·exact h i (by omega)
set_option maxHeartbeats 800000 in
theorem implIsSet {fz:Bool} {lo hi:Nat} (a:Option Addr) (n c:Nat) (xs:List Int) (v:Int) (w:World) (hI:IntsA fz lo hi w a n c xs) (hv0:0≤v) (hv1:v≤9223372036854775807) :
 Calls Tryd.prog 51 #[.slice a n c,.int .i64 v] w (Gives w (.bool (setB xs v))):=by
 have hl:=hI.len
 have hs:=hI.small
 have hnc:=hI.2.1
 have hcm:=hI.2.2.1
 have HL:=hid hl;clear hl
 go_enter Tryd.func51,Tryd.ntmps51
 go_wp2
 go_loopw [9] (fun i wr=>∃ k:Nat,i=.int .i64 k∧k≤n∧Hid (SetTo xs v k)∧∃ m,wr=w.drewN m) (fun i _=>n - (intOf i).toNat)
 case atStart=>exact ⟨0,rfl,by omega,hid (fun i hi=>by omega),0,rfl⟩
 case round =>
  obtain ⟨k,rfl,hk,HT,m,rfl⟩:=hrel
  by_cases hlt:k<n
  ·obtain ⟨b,off,rfl,_,_,hc,_⟩:=hI.open (by omega)
   have c0:=hc k hlt
   have hJ:=hI.take (j:=k) (by omega)
   have HC:=hid hc;clear hc
   have hx:=hI.at hlt
   generalize hxe:ix xs k=x at *
   have HX:=hid hxe;clear hxe
   have HJ:=hid hJ;clear hJ
   go_wp2_with fail
   refine (implWithin x 0 (v - 1) _).mono ?_
   rintro e w1 ⟨rfl,m1,rfl⟩
   by_cases hw:0≤x∧x≤v - 1
   ·have hd:decide (0≤x∧x≤v - 1)=true:=by simpa using hw
    rw [hd]
    go_wp2_with fail
    refine (implHasInt _ k c (xs.take k) x _ (HJ.out.drewN _)).mono ?_
    rintro e w2 ⟨rfl,m2,rfl⟩
    by_cases hf:0≤findF (xs.take k) x
    ·have hd2:decide (0≤findF (xs.take k) x)=true:=by simpa using hf
     rw [hd2]
     have hF:=hid (setB_false (xs:=xs) (n:=v) (i:=k) (by rw [HL.out];exact hlt) (by rw [HX.out];exact fun h=>h.2 hf))
     clear hf
     go_wp2_with fail
     go_ret
     exact ⟨by rw [hF.out];rfl,by first | exact ⟨_,rfl⟩ | exact ⟨_,dd⟩⟩
    ·have hd2:decide (0≤findF (xs.take k) x)=false:=by simpa using hf
     rw [hd2]
     have HT2:=hid (HT.out.succ (by rw [HX.out];exact ⟨hw,hf⟩))
     clear hf
     go_wp2_with fail
     go_roundw
     case rel=>exact ⟨k+1,by go_num,by omega,HT2,by first | exact ⟨_,rfl⟩ | exact ⟨_,dd⟩⟩
     case measure=>simp [intOf];omega
   ·have hd:decide (0≤x∧x≤v - 1)=false:=by simpa using hw
    rw [hd]
    have hF:=hid (setB_false (xs:=xs) (n:=v) (i:=k) (by rw [HL.out];exact hlt) (by rw [HX.out];exact fun h=>hw h.1))
    go_wp2_with fail
    go_ret
    exact ⟨by rw [hF.out];rfl,by first | exact ⟨_,rfl⟩ | exact ⟨_,dd⟩⟩
  ·go_wp2
   go_ret
   obtain rfl:k=n:=by omega
   exact ⟨by rw [setB_true (by rw [HL.out];exact HT.out)];rfl,by first | exact ⟨_,rfl⟩ | exact ⟨_,dd⟩⟩
noncomputable def permB (xs:List Int):Bool:=decide (xs.length≤5) && setB xs xs.length
end Go.Proofs.YteiaofkgbdlpoaaDoor
namespace Go.Proofs.YteiaofkgbdlpoaaDoor
set_option linter.unusedSimpArgs false
set_option linter.unusedVariables false
open Go.RowKit
def cmpI (x y:Int):Int:=if x<y then -1 else if y<x then 1 else 0
theorem implCmp (x y:Int) (w:World):Calls Tryd.prog 92 #[.int .i64 x,.int .i64 y] w (Gives w (.int .i64 (cmpI x y))):=by
 rcases Int.lt_trichotomy x y with h | h | h
 ·have hc:cmpI x y = -1:=by unfold cmpI;rw [if_pos h]
  rw [hc]
  go_enter Tryd.func92,Tryd.ntmps92
  go_wp2
  go_ret
  exact ⟨rfl,0,rfl⟩
 ·have hc:cmpI x y=0:=by unfold cmpI;rw [if_neg (by omega),if_neg (by omega)]
  rw [hc]
  have h1:¬ x<y:=by omega
  have h2:¬ y<x:=by omega
  clear h
  go_enter Tryd.func92,Tryd.ntmps92
  go_wp2
  go_ret
  exact ⟨rfl,0,rfl⟩
 ·have hc:cmpI x y=1:=by unfold cmpI;rw [if_neg (by omega),if_pos h]
  rw [hc]
  go_enter Tryd.func92,Tryd.ntmps92
  go_wp2
  go_ret
  exact ⟨rfl,0,rfl⟩
def ValTo (xs:List Int) (k:Nat):Prop:=∀ i,i<k→0≤ix xs i∧ix xs i≤99
open Classical in
noncomputable def valB (xs:List Int):Bool:=decide (ValTo xs xs.length)
def cmpR:List Int→List Int→Int
 | x :: xs,y :: ys=>if x=y then cmpR xs ys else cmpI x y
 | [],[]=>0
 | [],_ :: _=>-1
 | _ :: _,[]=>1
end Go.Proofs.YteiaofkgbdlpoaaDoor
namespace Go.Proofs.YteiaofkgbdlpoaaDoor
set_option linter.unusedSimpArgs false
set_option linter.unusedVariables false
open Go.RowKit
theorem eqL_refl (xs:List Int):eqL xs xs=true:=by simp [eqL]
noncomputable def ascAll (xss:List (List Int)):Bool:=@decide (0<xss.length∧∀ i,i<xss.length→ascB (rx xss i)=true) (Classical.propDecidable _)
def RowsTo (g:Nat) (w:World) (n:Nat) (xss:List (List Int)) (k:Nat):Prop :=
 ∃ vs,w.ownsRow g 23 1 (.slice (some ⟨g,0,none⟩) n n) n vs∧∀ i,i<k→∃ ra rn rc,vs[i]? = some (.slice ra rn rc)∧IntsA true (g+1) w.heap.size w ra rn rc (rx xss i)
theorem RowsTo.put {g:Nat} {w w1:World} {n:Nat} {xss:List (List Int)} {k:Nat} (h:RowsTo g w n xss k) (hk:k<n) (hg:g<w.heap.size) (hb:Below w.heap.size w w1) {ra:Option Addr} {rn rc:Nat}
 (hr:IntsA true w.heap.size w1.heap.size w1 ra rn rc (rx xss k)):RowsTo g (w1.setCell ⟨g,k,none⟩ (.slice ra rn rc)) n xss (k+1)∧Below g w (w1.setCell ⟨g,k,none⟩ (.slice ra rn rc)) ∧
  (∃ v0,w1.cell? ⟨g,k,none⟩=some v0)∧w1.frozen? ⟨g,k,none⟩=false:=by
 obtain ⟨vs,ho,hv⟩:=h
 have hlen:vs.length=n:=by have:=ho.1;omega
 have ho1:w1.ownsRow g 23 1 (.slice (some ⟨g,0,none⟩) n n) n vs:=ho.kept (row:=none) ⟨hb.os,hb.tape,hb.output,hb.size,fun k hk _=>hb.block k hk⟩ (.inr (by simp [Value.ownBlock]))
 obtain ⟨hs1,hs2⟩:=ho1.stored k (.slice ra rn rc)
 have hsz:(w1.setCell ⟨g,k,none⟩ (.slice ra rn rc)).heap.size=w1.heap.size:=by simp [World.setCell]
 have hbs:=hb.size
 have hset:Keeps (g+1) w1.heap.size w1 (w1.setCell ⟨g,k,none⟩ (.slice ra rn rc)):=fun j h1 h2=>hs2.block j h2 (by intro e;cases e;omega)
 refine ⟨⟨_,hs1,fun i hi=>?_⟩,(hb.mono (by omega)).grown hs2 (by omega) (fun j hj=>by cases hj;exact Nat.le_refl _),?_,ho1.frozenAt k⟩
 ·by_cases e:i=k
  ·subst e
   exact ⟨ra,rn,rc,by simp [hlen,hk],by rw [hsz];exact (hr.wide (by omega) (Nat.le_refl _)).keep hset⟩
  ·obtain ⟨ra',rn',rc',g1,g2⟩:=hv i (by omega)
   exact ⟨ra',rn',rc',by rw [List.getElem?_set_ne (by omega)];exact g1,by
    rw [hsz];exact ((g2.keep (Keeps.of_below hb (Nat.le_refl _))).wide (Nat.le_refl _) hbs).keep hset⟩
 ·have:=ho1.cells (g:=g) rfl k vs[k] (by simp [hlen,hk])
  rw [Addr.add_lit] at this;exact ⟨_,by simpa using this⟩
end Go.Proofs.YteiaofkgbdlpoaaDoor
namespace Go.Proofs.YteiaofkgbdlpoaaDoor
set_option linter.unusedSimpArgs false
set_option linter.unusedVariables false
open Go.RowKit
def RowOK (ar:Int) (rows:List (List Int)) (i:Nat):Prop:=((rx rows i).length:Int)=ar∧valB (rx rows i)=true∧(0<i→cmpR (rx rows (i - 1)) (rx rows i)<0)
open Classical in
noncomputable def validR (ar:Int) (rows:List (List Int)):Bool:=decide ((0≤ar∧ar≤5)∧rows.length≤4000∧∀ i,i<rows.length→RowOK ar rows i)
section
variable {α:Type} {k:Nat} {R:Rep α} {fz:Bool} {lo hi:Nat} {w w':World} {a:Option Addr} {n c:Nat} {xs:List α}
theorem SlA.be (ok:RepOK R) (h:SlA k R fz lo hi w a n c xs) {B:Nat} (hb:Below B w w') (hh:hi≤B):SlA k R fz lo hi w' a n c xs:=h.keep ok (Keeps.of_below hb hh)
theorem SlA.al (ok:RepOK R) (h:SlA k R fz lo hi w a n c xs) (hh:hi≤w.heap.size) (o:Obj):SlA k R fz lo hi (w.alloc o) a n c xs:=h.be ok ((Below.refl _ _).alloc (Nat.le_refl _) o) hh
end
theorem IntsA.be {fz:Bool} {lo hi:Nat} {w w':World} {a:Option Addr} {n c:Nat} {xs:List Int} (h:IntsA fz lo hi w a n c xs) {B:Nat} (hb:Below B w w') (hh:hi≤B):IntsA fz lo hi w' a n c xs:=h.keep (Keeps.of_below hb hh)
theorem IntsA.al {fz:Bool} {lo hi:Nat} {w:World} {a:Option Addr} {n c:Nat} {xs:List Int} (h:IntsA fz lo hi w a n c xs) (hh:hi≤w.heap.size) (o:Obj):IntsA fz lo hi (w.alloc o) a n c xs:=h.be ((Below.refl _ _).alloc (Nat.le_refl _) o) hh
theorem Below.al {B:Nat} {a w:World} (h:Below B a w) (hb:B≤w.heap.size) (o:Obj):Below B a (w.alloc o):=h.alloc hb o
theorem leA {a b:Nat} (h:a≤b:=by first | with_reducible exact Nat.le_refl _ | omega | (simp;done) | (simp;omega) | exact Nat.le_refl _):a≤b:=h
theorem belA {B:Nat} {a w:World} (h:Below B a w:=by repeat (first | with_reducible assumption | with_reducible exact Below.refl _ _ | with_reducible refine below_drewN ?_ _ | with_reducible refine Below.al ?_ (by first | with_reducible exact Nat.le_refl _ | omega | (simp;done) | (simp;omega) | exact Nat.le_refl _) _ | with_reducible refine Below.setCell ?_ (by first | with_reducible exact Nat.le_refl _ | omega | (simp;done) | (simp;omega) | exact Nat.le_refl _) _ | assumption | exact Below.refl _ _ | refine below_drewN ?_ _ | refine Below.al ?_ (by first | with_reducible exact Nat.le_refl _ | omega | (simp;done) | (simp;omega) | exact Nat.le_refl _) _ | refine Below.setCell ?_ (by first | with_reducible exact Nat.le_refl _ | omega | (simp;done) | (simp;omega) | exact Nat.le_refl _) _)):Below B a w:=h
theorem Gives.leaves {w:World} {v:Value} {e:Ending} {w':World} (h:Gives w v e w'):Leaves w v e w':=by
 obtain ⟨rfl,m,rfl⟩:=h;exact ⟨rfl,below_drewN (Below.refl _ _) m⟩
theorem bcell {W w1:World} (hb:Below W.heap.size W w1):(∀ b o,b<W.heap.size→w1.cell? ⟨b,o,none⟩=W.cell? ⟨b,o,none⟩)∧(∀ b o,b<W.heap.size→w1.frozen? ⟨b,o,none⟩=W.frozen? ⟨b,o,none⟩) :=
 ⟨fun b o h=>hb.cell (p:=⟨b,o,none⟩) h,fun b o h=>hb.frozen (p:=⟨b,o,none⟩) h⟩
theorem Keeps.sc {lo hi:Nat} {w w':World} {b o:Nat} (h:Keeps lo hi w w') (hb:b<lo∨hi≤b) (v:Value):Keeps lo hi w (w'.setCell ⟨b,o,none⟩ v):=fun k h1 h2=>by
 rw [heap_setCell_other w' ⟨b,o,none⟩ k _ (by show k ≠ b;omega)];exact h k h1 h2
theorem Keeps.al {lo hi:Nat} {w w':World} (h:Keeps lo hi w w') (hh:hi≤w'.heap.size) (o:Obj):Keeps lo hi w (w'.alloc o):=h.trans (Keeps.of_below ((Below.refl _ _).alloc (Nat.le_refl _) o) hh)
end Go.Proofs.YteiaofkgbdlpoaaDoor
namespace Go.Proofs.YteiaofkgbdlpoaaDoor
set_option linter.unusedSimpArgs false
set_option linter.unusedVariables false
open Go.RowKit
open Classical in
noncomputable def eqT (ar ar':Int) (rows rows':List (List Int)):Bool:=decide (ar=ar'∧rows=rows')
end Go.Proofs.YteiaofkgbdlpoaaDoor
namespace Go.Proofs.YteiaofkgbdlpoaaDoor
set_option linter.unusedSimpArgs false
set_option linter.unusedVariables false
open Go.RowKit
theorem cset_same {w:World} {a:Addr} {v u:Value} (h:w.cell? a=some u):(w.setCell a v).cell? a=some v:=by
 apply World.cell?_setCell_same <;> assumption
theorem cset_other {w:World} {a b:Addr} {v:Value} (h:a ≠ b):(w.setCell a v).cell? b=w.cell? b:=by
 apply World.cell?_setCell_other <;> assumption
def CellM (v v':Value):Prop:=v'=v∨∃ x x',v=.int .i64 x∧v'=.int .i64 x'∧I64 x'
theorem CellM.trans {a b c:Value} (h:CellM a b) (k:CellM b c):CellM a c:=by
 rcases k with rfl | ⟨x,x',rfl,rfl,hx⟩
 ·exact h
 ·rcases h with h | ⟨y,y',rfl,_,_⟩
  ·exact .inr ⟨x,x',h.symm,rfl,hx⟩
  ·exact .inr ⟨y,x',rfl,rfl,hx⟩
structure Marked (lo hi:Nat) (w w':World):Prop where
 os:w'.os=w.os
 tape:w'.tape=w.tape
 output:w'.output=w.output
 size:w'.heap.size=w.heap.size
 out:∀ k,(k<lo∨hi≤k)→w'.heap[k]? = w.heap[k]?
 cell:∀ p v,w.cell? p=some v→∃ v',w'.cell? p=some v'∧CellM v v'
 frz:∀ p,w'.frozen? p=w.frozen? p
theorem Marked.refl (lo hi:Nat) (w:World):Marked lo hi w w:=⟨rfl,rfl,rfl,rfl,fun _ _=>rfl,fun _ v h=>⟨v,h,.inl rfl⟩,fun _=>rfl⟩
theorem Marked.trans {lo hi:Nat} {a b c:World} (h:Marked lo hi a b) (k:Marked lo hi b c):Marked lo hi a c :=
 ⟨k.os.trans h.os,k.tape.trans h.tape,k.output.trans h.output,k.size.trans h.size,fun i hi=>(k.out i hi).trans (h.out i hi),fun p v hp=>by
  obtain ⟨v',g1,g2⟩:=h.cell p v hp
  obtain ⟨v'',g3,g4⟩:=k.cell p v' g1
  exact ⟨v'',g3,g2.trans g4⟩,fun p=>(k.frz p).trans (h.frz p)⟩
theorem Marked.drewN {lo hi:Nat} {a b:World} (h:Marked lo hi a b) (m:Nat):Marked lo hi a (b.drewN m):=⟨h.os,h.tape,h.output,h.size,h.out,h.cell,h.frz⟩
theorem Marked.wide {lo hi lo' hi':Nat} {a b:World} (h:Marked lo hi a b) (h1:lo'≤lo) (h2:hi≤hi'):Marked lo' hi' a b:=⟨h.os,h.tape,h.output,h.size,fun k hk=>h.out k (by omega),h.cell,h.frz⟩
theorem Marked.below {lo hi:Nat} {a b:World} (h:Marked lo hi a b):Below lo a b:=⟨h.os,h.tape,h.output,by rw [h.size];exact Nat.le_refl _,fun k hk=>h.out k (.inl hk)⟩
theorem Marked.keeps {lo hi lo' hi':Nat} {a b:World} (h:Marked lo hi a b) (hd:hi'≤lo∨hi≤lo'):Keeps lo' hi' a b:=fun k h1 h2=>h.out k (by omega)
theorem marked_set {lo hi:Nat} {w:World} {b o:Nat} {x x':Int} (h:w.cell? ⟨b,o,none⟩=some (.int .i64 x)) (h1:lo≤b) (h2:b<hi) (hx:I64 x'):Marked lo hi w (w.setCell ⟨b,o,none⟩ (.int .i64 x')):=by
 refine ⟨rfl,rfl,rfl,by simp [World.setCell],fun k hk=>?_,fun p v hp=>?_,fun p=>by simp⟩
 ·rw [heap_setCell_other w ⟨b,o,none⟩ k _ (by show k ≠ b;omega)]
 ·by_cases e:(⟨b,o,none⟩:Addr)=p
  ·subst e
   rw [h] at hp
   cases hp
   exact ⟨_,cset_same h,.inr ⟨x,x',rfl,rfl,hx⟩⟩
  ·exact ⟨v,by rw [cset_other e];exact hp,.inl rfl⟩
theorem IntsA.marked {lo hi lo' hi':Nat} {w w':World} {a:Option Addr} {n c:Nat} {xs:List Int} (h:IntsA true lo hi w a n c xs) (hm:Marked lo' hi' w w'):∃ ys,IntsA true lo hi w' a n c ys:=by
 obtain ⟨h1,h2,h3,h4,h5,h6⟩:=h
 by_cases hn:0<n
 ·obtain ⟨b,off,ha,hl,hb,hc⟩:=h5 hn
  have each:∀ i,i<n→∃ y:Int,I64 y∧w'.cell? ⟨b,off+i,none⟩=some (.int .i64 y):=by
   intro i hi
   obtain ⟨v',g1,g2⟩:=hm.cell _ _ (hc i hi).1
   rcases g2 with rfl | ⟨_,y,_,rfl,hy⟩
   ·exact ⟨ix xs i,by rw [ix_lt (by omega)];exact h4 _ (List.getElem_mem _),g1⟩
   ·exact ⟨y,hy,g1⟩
  obtain ⟨y,hy⟩:=Deep.choose_lt each
  refine ⟨(List.range n).map y,by simp,h2,h3,?_,fun _=>⟨b,off,ha,hl,hb,fun i hi=>⟨?_,fun hf=>by rw [hm.frz];exact (hc i hi).2 hf⟩⟩,h6⟩
  ·intro z hz
   obtain ⟨i,hi,rfl⟩:=List.mem_map.1 hz
   exact (hy i (by simpa using hi)).1
  ·rw [(hy i hi).2];simp [ix,hi]
 ·exact ⟨xs,h1,h2,h3,h4,fun h=>absurd h hn,h6⟩
def marks (k:Int):Nat→List Int
 | 0=>[]
 | n+1=>marks k n ++ [k+n]
theorem marks_len (k:Int) (n:Nat):(marks k n).length=n:=by
 induction n with
 | zero=>rfl
 | succ n ih=>simp [marks,ih]
theorem marks_ix (k:Int) {n i:Nat} (h:i<n):ix (marks k n) i=k+i:=by
 induction n with
 | zero=>omega
 | succ n ih =>
  simp only [marks,ix,List.getD]
  by_cases e:i<n
  ·rw [List.getElem?_append_left (by rw [marks_len];exact e)];exact ih e
  ·obtain rfl:i=n:=by omega
   rw [List.getElem?_append_right (by rw [marks_len];exact Nat.le_refl _),marks_len];simp
theorem marks_i64 {k:Int} {n:Nat} (h0:0≤k) (h1:k≤4194304) (hn:n≤1048576):∀ z∈marks k n,I64 z:=by
 induction n with
 | zero=>intro z hz;simp [marks] at hz
 | succ n ih =>
  intro z hz
  simp only [marks,List.mem_append,List.mem_singleton] at hz
  rcases hz with hz | rfl
  ·exact ih (by omega) z hz
  ·unfold I64;omega
def GivesMarked (lo hi:Nat) (w:World) (r:Int) (a:Option Addr) (n c:Nat) (ys:List Int) (e:Ending) (w':World):Prop :=
 e=.returned (.int .i64 r)∧Marked lo hi w w'∧IntsA true lo hi w' a n c ys
set_option maxHeartbeats 800000 in
theorem markInts {lo hi:Nat} (a:Option Addr) (n c:Nat) (xs:List Int) (k:Int) (w:World) (hI:IntsA true lo hi w a n c xs) (h0:0≤k) (h1:k≤4194304) (hn:n≤1048576) :
 Calls Tryd.prog 36 #[.slice a n c,.int .i64 k] w (GivesMarked lo hi w (k+n) a n c (marks k n)):=by
 have hs:=hI.small
 by_cases hn0:0<n
 ·obtain ⟨b,off,rfl,hlo,hhi,hc,hz⟩:=hI.open hn0
  have hz:=hz rfl
  have hcap:=hI.2.1
  have hcm:=hI.2.2.1
  have HC:=hid (And.intro hc hz)
  have HI:=hid hI;clear hI hc hz
  go_enter Tryd.func36,Tryd.ntmps36
  go_wp2
  go_loopw [1,5] (fun q i wr=>∃ (j:Nat) (t:Int),i=.int .i64 j∧q=.int .i64 t∧t=k+j∧j≤n∧Marked lo hi w wr∧∀ i,i<j→wr.cell? ⟨b,off+i,none⟩=some (.int .i64 (k+i))) (fun _ i _=>n - (intOf i).toNat)
  case atStart=>exact ⟨0,_,rfl,rfl,by omega,by omega,Marked.refl _ _ _,fun i hi=>by omega⟩
  case round =>
   obtain ⟨j,t,rfl,rfl,ht,hj,hm,hcells⟩:=hrel
   have ht1:0≤t:=by omega
   have ht2:t≤5242880:=by omega
   have HT:=hid ht;clear ht
   have HM:=hid hm;clear hm
   have HCE:=hid hcells;clear hcells
   by_cases hlt:j<n
   ·obtain ⟨v',hv,hcm'⟩:=HM.out.cell _ _ (HC.out.1 j hlt)
    obtain ⟨y,hy⟩:∃ y,wr.cell? ⟨b,off+j,none⟩=some (.int .i64 y):=by
     rcases hcm' with rfl | ⟨_,y,_,rfl,_⟩
     ·exact ⟨_,hv⟩
     ·exact ⟨y,hv⟩
    have hf:wr.frozen? ⟨b,off+j,none⟩=false:=by rw [HM.out.frz];exact HC.out.2 j hlt
    have HMS:=hid (marked_set (x':=t) hy hlo hhi (by unfold I64;omega))
    clear hv hcm'
    have HY:=hid hy
    go_wp2
    go_roundw
    case rel=>exact ⟨j+1,_,by go_num,rfl,by have:=HT.out;omega,by omega,HM.out.trans HMS.out,fun i hi=>by
     by_cases e:i=j
     ·subst e;rw [cset_same HY.out,HT.out]
     ·rw [cset_other (by intro h;simp only [Addr.mk.injEq] at h;omega)];exact HCE.out i (by omega)⟩
    case measure=>simp [intOf];omega
   ·go_wp2
    go_ret
    refine ⟨ret_int (by have:=HT.out;omega),HM.out,marks_len _ _,hcap,hcm,marks_i64 h0 h1 hn,fun _=>⟨b,off,rfl,hlo,hhi,fun i hi=>⟨?_,fun _=>?_⟩⟩,fun h=>(by cases h)⟩
    ·rw [marks_ix k hi];exact HCE.out i (by omega)
    ·rw [HM.out.frz];exact HC.out.2 i hi
 ·have hn0':n≤0:=by omega
  have HI:=hid hI;clear hI
  go_enter Tryd.func36,Tryd.ntmps36
  go_wp2
  go_loopw [1,5] (fun q i wr=>i=.int .i64 0∧q=.int .i64 k∧wr=w) (fun _ i _=>n - (intOf i).toNat)
  case atStart=>exact ⟨rfl,rfl,rfl⟩
  case round =>
   obtain ⟨rfl,rfl,rfl⟩:=hrel
   go_wp2
   go_ret
   have hx:=HI.out
   obtain rfl:n=0:=by omega
   exact ⟨ret_int (by omega),Marked.refl _ _ _,rfl,hx.2.1,hx.2.2.1,(fun z hz=>by simp [marks] at hz),(fun h=>by omega),hx.2.2.2.2.2⟩
theorem CellM.slice {a:Option Addr} {n c:Nat} {v:Value} (h:CellM (.slice a n c) v):v=.slice a n c:=by
 rcases h with h | ⟨_,_,h,_⟩
 ·exact h
 ·cases h
end Go.Proofs.YteiaofkgbdlpoaaDoor
namespace Go.Proofs.YteiaofkgbdlpoaaDoor
set_option linter.unusedSimpArgs false
set_option linter.unusedVariables false
open Go.RowKit
structure MarkedG (lo hi:Nat) (w w':World):Prop where
 os:w'.os=w.os
 tape:w'.tape=w.tape
 output:w'.output=w.output
 size:w.heap.size≤w'.heap.size
 out:∀ k,k<w.heap.size→(k<lo∨hi≤k)→w'.heap[k]? = w.heap[k]?
 cell:∀ p v,w.cell? p=some v→∃ v',w'.cell? p=some v'∧CellM v v'
 frz:∀ p,w.cell? p ≠ none→w'.frozen? p=w.frozen? p
theorem cell_lt {w:World} {p:Addr} (h:w.cell? p ≠ none):p.block<w.heap.size:=by
 cases hc:w.cell? p with
 | none=>exact absurd hc h
 | some v=>exact World.block_lt_of_cell? w _ hc
theorem MarkedG.of_marked {lo hi:Nat} {w w':World} (h:Marked lo hi w w'):MarkedG lo hi w w' :=
 ⟨h.os,h.tape,h.output,by rw [h.size];exact Nat.le_refl _,fun k _ hk=>h.out k hk,h.cell,fun p _=>h.frz p⟩
theorem MarkedG.of_below {lo hi:Nat} {w w':World} (h:Below w.heap.size w w'):MarkedG lo hi w w':=by
 refine ⟨h.os,h.tape,h.output,h.size,fun k hk _=>h.block k hk,fun p v hp=>⟨v,?_,.inl rfl⟩,fun p hp=>?_⟩
 ·rw [h.cell (World.block_lt_of_cell? w _ hp)];exact hp
 ·rw [h.frozen (cell_lt hp)]
theorem MarkedG.trans {lo hi:Nat} {a b c:World} (h:MarkedG lo hi a b) (k:MarkedG lo hi b c):MarkedG lo hi a c:=by
 have hs:=h.size
 refine ⟨k.os.trans h.os,k.tape.trans h.tape,k.output.trans h.output,Nat.le_trans h.size k.size,fun i h1 h2=>(k.out i (by omega) h2).trans (h.out i h1 h2),fun p v hp=>?_,fun p hp=>?_⟩
 ·obtain ⟨v',g1,g2⟩:=h.cell p v hp
  obtain ⟨v'',g3,g4⟩:=k.cell p v' g1
  exact ⟨v'',g3,g2.trans g4⟩
 ·rw [k.frz p,h.frz p hp]
  cases hc:a.cell? p with
  | none=>exact absurd hc hp
  | some v=>obtain ⟨v',g1,_⟩:=h.cell p v hc;rw [g1];exact fun h=>(by cases h)
theorem MarkedG.drewN {lo hi:Nat} {a b:World} (h:MarkedG lo hi a b) (m:Nat):MarkedG lo hi a (b.drewN m):=h.trans (.of_below (below_drewN (Below.refl _ _) m))
theorem MarkedG.keeps {lo hi lo' hi':Nat} {a b:World} (h:MarkedG lo hi a b) (hd:hi'≤lo∨hi≤lo') (hs:hi'≤a.heap.size):Keeps lo' hi' a b:=fun k h1 h2=>h.out k (by omega) (by omega)
theorem MarkedG.below {lo hi B:Nat} {a b:World} (h:MarkedG lo hi a b) (h1:B≤lo) (h2:B≤a.heap.size):Below B a b:=⟨h.os,h.tape,h.output,h.size,fun k hk=>h.out k (by omega) (.inl (by omega))⟩
theorem MarkedG.wide {lo hi lo' hi':Nat} {a b:World} (h:MarkedG lo hi a b) (h1:lo'≤lo) (h2:hi≤hi'):MarkedG lo' hi' a b:=⟨h.os,h.tape,h.output,h.size,fun k hk hk'=>h.out k hk (by omega),h.cell,h.frz⟩
theorem boxG {lo hi:Nat} {w w':World} (h:MarkedG lo hi w w') {g:Nat} (o:Nat) (h1:g<w.heap.size) (h2:g<lo∨hi≤g):w'.cell? ⟨g,o,none⟩=w.cell? ⟨g,o,none⟩:=World.cell?_of_block (w:=w) (h.out g h1 h2)
theorem beInts {fz:Bool} {lo hi B:Nat} {w w':World} {a:Option Addr} {n c:Nat} {xs:List Int} (h:IntsA fz lo hi w a n c xs) (hb:Below B w w') (hh:hi≤B):IntsA fz lo hi w' a n c xs:=h.be hb hh
theorem kpInts {fz:Bool} {lo hi:Nat} {w w':World} {a:Option Addr} {n c:Nat} {xs:List Int} (h:IntsA fz lo hi w a n c xs) (hb:Keeps lo hi w w'):IntsA fz lo hi w' a n c xs:=h.keep hb
theorem wdInts {fz:Bool} {lo hi lo':Nat} {w:World} {a:Option Addr} {n c:Nat} {xs:List Int} (h:IntsA fz lo hi w a n c xs) (hl:lo'≤lo):IntsA fz lo' hi w a n c xs:=h.wide hl (Nat.le_refl _)
theorem hgInts {fz:Bool} {lo hi hi':Nat} {w:World} {a:Option Addr} {n c:Nat} {xs:List Int} (h:IntsA fz lo hi w a n c xs) (hl:hi≤hi'):IntsA fz lo hi' w a n c xs:=h.wide (Nat.le_refl _) hl
theorem szK_Ints {fz:Bool} {lo hi:Nat} (a:Option Addr) (n c:Nat) (xs:List Int) (left:Int) (w:World) (hI:IntsA fz lo hi w a n c xs) (h0:0≤left) (h1:left≤1048576) :
 Calls Tryd.prog 24 #[.slice a n c,.int .i64 left] w (Gives w (.int .i64 (szI xs.length left))):=by rw [hI.len];exact szInts a n c xs left w hI h0 h1
theorem szSet (w:World) (a:Addr) (v:Value):(w.setCell a v).heap.size=w.heap.size:=by simp [World.setCell]
theorem fset {w:World} {a b:Addr} {v:Value}:(w.setCell a v).frozen? b=w.frozen? b:=by simp
def GvInts (w:World) (xs:List Int) (e:Ending) (w':World):Prop:=∃ a n c,e=.returned (.slice a n c)∧IntsA true w.heap.size w'.heap.size w' a n c xs∧Below w.heap.size w w'
theorem GivesOwn.gv {w:World} {xs:List Int} {e:Ending} {w':World} (h:GivesOwn w xs e w'):GvInts w xs e w':=by
 obtain ⟨a,n,c,h1,h2,h3⟩:=h;exact ⟨a,n,c,h1,h2.ints,h3⟩
theorem toK_Ints {lo hi:Nat} (a:Option Addr) (n c:Nat) (xs:List Int) (w:World) (hI:IntsA false lo hi w a n c xs) (hh:hi≤w.heap.size) (hs:xs.length≤1048576) :
 Calls Tryd.prog 28 #[.slice a n c] w (GvInts w xs):=(toInts a n c xs w hI hh (by rw [← hI.len];exact hs)).mono fun _ _ h=>h.gv
theorem eqK_Ints {fz fz':Bool} {lo hi lo' hi':Nat} (a a':Option Addr) (n c n' c':Nat) (xs:List Int) (w:World) (hI:IntsA fz lo hi w a n c xs) (hJ:IntsA fz' lo' hi' w a' n' c' xs) :
 Calls Tryd.prog 34 #[.slice a n c,.slice a' n' c'] w (Gives w (.bool true)):=by have:=eqInts a a' n c n' c' xs xs w hI hJ;rwa [eqL_refl] at this
end Go.Proofs.YteiaofkgbdlpoaaDoor
