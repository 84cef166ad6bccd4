/- Lemmas for the proof of FnIteration, part 1 of 22: no condition of their own. -/
import Derived.Test.YtfobmfngbfbfdaaRows
import Derived.WalkKit
import Derived.WalkSpells
import Derived.WalkLawsBesides
import Derived.Deep.QuietTactic
import Derived.BigQuiet
import Derived.Deep.LoopGhost
import Derived.Laws.AppendOwnNone
namespace Go.Proofs.Ytfobmfngbfbfdaa
set_option linter.unusedSimpArgs false
set_option linter.unusedVariables false
open Go.RowKit
theorem hid {p:Prop} (h:p):Hid p:=h
def ix (xs:List Int) (i:Nat):Int:=xs.getD i 0
theorem ix_lt {xs:List Int} {i:Nat} (h:i<xs.length):ix xs i=xs[i]:=by simp [ix,h]
def I64 (x:Int):Prop:=-9223372036854775808≤x∧x≤9223372036854775807
def IntsA (fz:Bool) (lo hi:Nat) (w:World) (a:Option Addr) (n c:Nat) (xs:List Int):Prop :=
 xs.length=n∧n≤c∧c≤maxLen∧(∀ x∈xs,I64 x)∧(0<n→∃ b off,a=some ⟨b,off,none⟩∧lo≤b∧b<hi∧∀ i,i<n→w.cell? ⟨b,off+i,none⟩=some (.int .i64 (ix xs i))∧(fz=true→w.frozen? ⟨b,off+i,none⟩=false))∧(a=none→c=0)
theorem IntsA.len {fz:Bool} {lo hi:Nat} {w:World} {a:Option Addr} {n c:Nat} {xs:List Int} (h:IntsA fz lo hi w a n c xs):xs.length=n:=h.1
theorem IntsA.small {fz:Bool} {lo hi:Nat} {w:World} {a:Option Addr} {n c:Nat} {xs:List Int} (h:IntsA fz lo hi w a n c xs):n≤9223372036854775807:=by
 have h1:=h.2.1;have h2:=h.2.2.1;unfold maxLen at h2;omega
theorem IntsA.at {fz:Bool} {lo hi:Nat} {w:World} {a:Option Addr} {n c:Nat} {xs:List Int} (h:IntsA fz lo hi w a n c xs) {i:Nat} (hi':i<n):I64 (ix xs i):=by
 have:=h.1;rw [ix_lt (by omega)];exact h.2.2.2.1 _ (List.getElem_mem _)
theorem IntsA.open {fz:Bool} {lo hi:Nat} {w:World} {a:Option Addr} {n c:Nat} {xs:List Int} (h:IntsA fz lo hi w a n c xs) (hn:0<n) :
 ∃ b off,a=some ⟨b,off,none⟩∧lo≤b∧b<hi∧(∀ i,i<n→w.cell? ⟨b,off+i,none⟩=some (.int .i64 (ix xs i)))∧(fz=true→∀ i,i<n→w.frozen? ⟨b,off+i,none⟩=false):=by
 obtain ⟨b,off,h1,h2,h3,h4⟩:=h.2.2.2.2.1 hn
 exact ⟨b,off,h1,h2,h3,fun i hi=>(h4 i hi).1,fun hf i hi=>(h4 i hi).2 hf⟩
def Keeps (lo hi:Nat) (w w':World):Prop:=∀ k,lo≤k→k<hi→w'.heap[k]? = w.heap[k]?
theorem Keeps.refl (lo hi:Nat) (w:World):Keeps lo hi w w:=fun _ _ _=>rfl
theorem Keeps.trans {lo hi:Nat} {a b c:World} (h:Keeps lo hi a b) (k:Keeps lo hi b c):Keeps lo hi a c:=fun i h1 h2=>(k i h1 h2).trans (h i h1 h2)
theorem Keeps.of_below {B lo hi:Nat} {w w':World} (h:Below B w w') (hh:hi≤B):Keeps lo hi w w':=fun k _ h2=>h.block k (by omega)
theorem Keeps.mono {lo hi lo' hi':Nat} {w w':World} (h:Keeps lo hi w w') (h1:lo≤lo') (h2:hi'≤hi):Keeps lo' hi' w w':=fun k a b=>h k (by omega) (by omega)
theorem Keeps.drewN (lo hi:Nat) (w:World) (n:Nat):Keeps lo hi w (w.drewN n):=fun _ _ _=>rfl
theorem IntsA.keep {fz:Bool} {lo hi:Nat} {w w':World} {a:Option Addr} {n c:Nat} {xs:List Int} (h:IntsA fz lo hi w a n c xs) (hk:Keeps lo hi w w'):IntsA fz lo hi w' a n c xs:=by
 obtain ⟨h1,h2,h3,h4,h5,h6⟩:=h
 refine ⟨h1,h2,h3,h4,fun hn=>?_,h6⟩
 obtain ⟨b,off,ha,hl,hb,hc⟩:=h5 hn
 refine ⟨b,off,ha,hl,hb,fun i hi=>⟨?_,fun hf=>?_⟩⟩
 ·rw [World.cell?_of_block (w:=w) (hk b hl hb)];exact (hc i hi).1
 ·rw [World.frozen?_of_block (w:=w) (hk b hl hb)];exact (hc i hi).2 hf
theorem IntsA.wide {fz:Bool} {lo hi lo' hi':Nat} {w:World} {a:Option Addr} {n c:Nat} {xs:List Int} (h:IntsA fz lo hi w a n c xs) (h1:lo'≤lo) (h2:hi≤hi'):IntsA fz lo' hi' w a n c xs:=by
 obtain ⟨g1,g2,g3,g4,g5,g6⟩:=h
 refine ⟨g1,g2,g3,g4,fun hn=>?_,g6⟩
 obtain ⟨b,off,ha,hl,hb,hc⟩:=g5 hn
 exact ⟨b,off,ha,by omega,by omega,hc⟩
theorem IntsA.read {fz:Bool} {lo hi:Nat} {w:World} {a:Option Addr} {n c:Nat} {xs:List Int} (h:IntsA fz lo hi w a n c xs):IntsA false lo hi w a n c xs:=by
 obtain ⟨g1,g2,g3,g4,g5,g6⟩:=h
 refine ⟨g1,g2,g3,g4,fun hn=>?_,g6⟩
 obtain ⟨b,off,ha,hl,hb,hc⟩:=g5 hn
 exact ⟨b,off,ha,hl,hb,fun i hi=>⟨(hc i hi).1,fun h=>by cases h⟩⟩
theorem IntsA.drewN {fz:Bool} {lo hi:Nat} {w:World} {a:Option Addr} {n c:Nat} {xs:List Int} (h:IntsA fz lo hi w a n c xs) (k:Nat):IntsA fz lo hi (w.drewN k) a n c xs:=h
def Gives (w:World) (v:Value) (e:Ending) (w':World):Prop:=e=.returned v∧∃ k,w'=w.drewN k
theorem dd {w:World} {n m:Nat}:(w.drewN n).drewN m=w.drewN (n+m):=World.drewN_drewN ..
theorem keeps_dr {w w':World} (lo hi:Nat) (h:∃ k,w'=w.drewN k):Keeps lo hi w w':=by obtain ⟨k,rfl⟩:=h;exact Keeps.drewN lo hi w k
theorem dr_more {w w':World} (h:∃ k,w'=w.drewN k) (m:Nat):∃ k,w'.drewN m=w.drewN k:=by obtain ⟨k,rfl⟩:=h;exact ⟨_,dd⟩
theorem ret_int {k:IntKind} {a b:Int} (h:a=b):Ending.returned (.int k a)=.returned (.int k b):=by rw [h]
theorem below_drewN {B:Nat} {a w:World} (h:Below B a w) (k:Nat):Below B a (w.drewN k):=⟨h.os,h.tape,h.output,h.size,h.block⟩
theorem Below.calm {a b c:World} (h:Below a.heap.size a b) (k:Below b.heap.size b c):Below a.heap.size a c:=h.trans (k.mono h.size)
def Own (base:Nat) (w:World) (a:Option Addr) (n c:Nat) (xs:List Int):Prop :=
 w.ownsRow base 3 1 (.slice a n c) n (xs.map (Value.int .i64))∧∀ x∈xs,I64 x
theorem Own.len {base:Nat} {w:World} {a:Option Addr} {n c:Nat} {xs:List Int} (h:Own base w a n c xs):xs.length=n:=by
 have:=h.1.1;simpa using this
theorem Own.ints {base:Nat} {w:World} {a:Option Addr} {n c:Nat} {xs:List Int} (h:Own base w a n c xs):IntsA true base w.heap.size w a n c xs:=by
 have hlen:=h.len
 obtain ⟨ho,h64⟩:=h
 have ho':=ho
 obtain ⟨h1,h2⟩:=ho
 rcases h2 with ⟨h2,h3⟩ | ⟨g,cap,cur,hv,hb,hg,hnc,hcm,hcs,htake⟩
 ·simp only [Value.slice.injEq] at h2
  obtain ⟨rfl,rfl,rfl⟩:=h2
  exact ⟨hlen,Nat.zero_le _,by simp [maxLen],h64,fun h=>by omega,fun _=>rfl⟩
 ·simp only [Value.slice.injEq] at hv
  obtain ⟨rfl,_,rfl⟩:=hv
  refine ⟨hlen,hnc,hcm,h64,fun _=>⟨g,0,rfl,hb,(Array.getElem?_eq_some_iff.1 hg).1,fun i hi=>⟨?_,fun _=>?_⟩⟩,fun h=>(by cases h)⟩
  ·have h5:=ho'.cells (g:=g) rfl i (.int .i64 (ix xs i)) (by rw [List.getElem?_map,List.getElem?_eq_getElem (by omega),ix_lt (by omega)];rfl)
   rwa [Addr.add_lit] at h5
  ·exact frozen_of_row w g (0+i) cur _ hg
theorem Own.keep {base:Nat} {w w':World} {a:Option Addr} {n c:Nat} {xs:List Int} (h:Own base w a n c xs) (hk:Keeps base w.heap.size w w'):Own base w' a n c xs:=by
 obtain ⟨⟨h1,h2⟩,h64⟩:=h
 refine ⟨⟨h1,?_⟩,h64⟩
 rcases h2 with h2 | ⟨g,cap,cur,hv,hb,hg,rest⟩
 ·exact .inl h2
 ·exact .inr ⟨g,cap,cur,hv,hb,by rw [hk g hb (Array.getElem?_eq_some_iff.1 hg).1];exact hg,rest⟩
theorem Own.drewN {base:Nat} {w:World} {a:Option Addr} {n c:Nat} {xs:List Int} (h:Own base w a n c xs) (k:Nat):Own base (w.drewN k) a n c xs:=h
def Leaves (w:World) (v:Value) (e:Ending) (w':World):Prop:=e=.returned v∧Below w.heap.size w w'
theorem infoInt:(Try.prog.info? 3).map (fun i=>(i.zero,i.size,i.bytes))=some (some (.int .i64 0),1,8):=by kernel_rfl
abbrev Rep (α:Type):=Bool→Nat→Nat→World→List Value→α→Prop
structure RepOK {α:Type} (R:Rep α):Prop where
 keep:∀ {fz lo hi w w' cs x},R fz lo hi w cs x→Keeps lo hi w w'→R fz lo hi w' cs x
 wide:∀ {fz lo hi lo' hi' w cs x},R fz lo hi w cs x→lo'≤lo→hi≤hi'→R fz lo' hi' w cs x
 read:∀ {fz lo hi w cs x},R fz lo hi w cs x→R false lo hi w cs x
def SlA {α:Type} (k:Nat) (R:Rep α) (fz:Bool) (lo hi:Nat) (w:World) (a:Option Addr) (n c:Nat) (xs:List α):Prop :=
 xs.length=n∧n≤c∧c≤maxLen∧(0<n→∃ b off,a=some ⟨b,off,none⟩∧lo≤b∧b<hi∧∀ i,i<n→∃ cs x,cs.length=k∧xs[i]? = some x∧R fz lo hi w cs x ∧
  ∀ j,j<k→w.cell? ⟨b,off+i*k+j,none⟩=some (cs.getD j undef)∧(fz=true→w.frozen? ⟨b,off+i*k+j,none⟩=false))∧(a=none→c=0)
section
variable {α:Type} {k:Nat} {R:Rep α} {fz:Bool} {lo hi lo' hi':Nat} {w w':World} {a:Option Addr} {n c:Nat} {xs:List α}
theorem SlA.len (h:SlA k R fz lo hi w a n c xs):xs.length=n:=h.1
theorem SlA.small (h:SlA k R fz lo hi w a n c xs):n≤9223372036854775807:=by
 have h1:=h.2.1;have h2:=h.2.2.1;unfold maxLen at h2;omega
theorem SlA.open (h:SlA k R fz lo hi w a n c xs) (hn:0<n):∃ b off,a=some ⟨b,off,none⟩∧lo≤b∧b<hi∧∀ i,i<n→∃ cs x,cs.length=k∧xs[i]? = some x∧R fz lo hi w cs x ∧
 ∀ j,j<k→w.cell? ⟨b,off+i*k+j,none⟩=some (cs.getD j undef)∧(fz=true→w.frozen? ⟨b,off+i*k+j,none⟩=false):=h.2.2.2.1 hn
theorem SlA.keep (ok:RepOK R) (h:SlA k R fz lo hi w a n c xs) (hk:Keeps lo hi w w'):SlA k R fz lo hi w' a n c xs:=by
 obtain ⟨h1,h2,h3,h4,h5⟩:=h
 refine ⟨h1,h2,h3,fun hn=>?_,h5⟩
 obtain ⟨b,off,ha,hl,hb,hc⟩:=h4 hn
 refine ⟨b,off,ha,hl,hb,fun i hi=>?_⟩
 obtain ⟨cs,x,g1,g2,g3,g4⟩:=hc i hi
 refine ⟨cs,x,g1,g2,ok.keep g3 hk,fun j hj=>⟨?_,fun hf=>?_⟩⟩
 ·rw [World.cell?_of_block (w:=w) (hk b hl hb)];exact (g4 j hj).1
 ·rw [World.frozen?_of_block (w:=w) (hk b hl hb)];exact (g4 j hj).2 hf
theorem SlA.drewN (ok:RepOK R) (h:SlA k R fz lo hi w a n c xs) (m:Nat):SlA k R fz lo hi (w.drewN m) a n c xs:=h.keep ok (Keeps.drewN lo hi w m)
theorem SlA.wide (ok:RepOK R) (h:SlA k R fz lo hi w a n c xs) (h1:lo'≤lo) (h2:hi≤hi'):SlA k R fz lo' hi' w a n c xs:=by
 obtain ⟨g1,g2,g3,g4,g5⟩:=h
 refine ⟨g1,g2,g3,fun hn=>?_,g5⟩
 obtain ⟨b,off,ha,hl,hb,hc⟩:=g4 hn
 refine ⟨b,off,ha,by omega,by omega,fun i hi=>?_⟩
 obtain ⟨cs,x,g1,g2,g3,g4⟩:=hc i hi
 exact ⟨cs,x,g1,g2,ok.wide g3 h1 h2,g4⟩
theorem SlA.read (ok:RepOK R) (h:SlA k R fz lo hi w a n c xs):SlA k R false lo hi w a n c xs:=by
 obtain ⟨g1,g2,g3,g4,g5⟩:=h
 refine ⟨g1,g2,g3,fun hn=>?_,g5⟩
 obtain ⟨b,off,ha,hl,hb,hc⟩:=g4 hn
 refine ⟨b,off,ha,hl,hb,fun i hi=>?_⟩
 obtain ⟨cs,x,g1,g2,g3,g4⟩:=hc i hi
 exact ⟨cs,x,g1,g2,ok.read g3,fun j hj=>⟨(g4 j hj).1,fun h=>(by cases h)⟩⟩
end
def intsR:Rep (List Int):=fun fz lo hi w cs xs=>∃ a n c,cs=[.slice a n c]∧IntsA fz lo hi w a n c xs
theorem intsOK:RepOK intsR :=
 ⟨fun ⟨a,n,c,h1,h2⟩ hk=>⟨a,n,c,h1,h2.keep hk⟩,fun ⟨a,n,c,h1,h2⟩ g1 g2=>⟨a,n,c,h1,h2.wide g1 g2⟩,fun ⟨a,n,c,h1,h2⟩=>⟨a,n,c,h1,h2.read⟩⟩
abbrev RowsA:=SlA 1 intsR
def rx (xss:List (List Int)) (i:Nat):List Int:=xss.getD i []
theorem rx_lt {xss:List (List Int)} {i:Nat} (h:i<xss.length):rx xss i=xss[i]:=by simp [rx,h]
theorem RowsA.at {fz:Bool} {lo hi:Nat} {w:World} {b off n c:Nat} {xss:List (List Int)} (h:RowsA fz lo hi w (some ⟨b,off,none⟩) n c xss) {i:Nat} (hi':i<n) :
 lo≤b∧b<hi∧∃ ra rn rc,w.cell? ⟨b,off+i,none⟩=some (.slice ra rn rc)∧IntsA fz lo hi w ra rn rc (rx xss i)∧(fz=true→w.frozen? ⟨b,off+i,none⟩=false):=by
 obtain ⟨b',off',ha,hl,hb,hc⟩:=h.open (by omega)
 simp only [Option.some.injEq,Addr.mk.injEq,and_true] at ha
 obtain ⟨rfl,rfl⟩:=ha
 obtain ⟨cs,x,g1,g2,⟨ra,rn,rc,rfl,g3⟩,g4⟩:=hc i hi'
 have g5:=g4 0 (by omega)
 have hx:rx xss i=x:=by simp [rx,g2]
 refine ⟨hl,hb,ra,rn,rc,by simpa using g5.1,by rw [hx];exact g3,by simpa using g5.2⟩
theorem RowsA.some {fz:Bool} {lo hi:Nat} {w:World} {a:Option Addr} {n c:Nat} {xss:List (List Int)} (h:RowsA fz lo hi w a n c xss) (hn:0<n):∃ b off,a=some ⟨b,off,none⟩:=by
 obtain ⟨b,off,ha,_⟩:=h.open hn
 exact ⟨b,off,ha⟩
theorem Own.grown {base B:Nat} {w0 w w':World} {a:Option Addr} {n c:Nat} {xs:List Int} (h:Own base w a n c xs) (hg:w.grownBy w' (Value.slice a n c).ownBlock) (hb:Below B w0 w) (hB:B≤base) (hB2:B≤w.heap.size):Below B w0 w' :=
 hb.grown hg hB2 (fun k hk=>by have:=h.1.lt k hk;omega)
end Go.Proofs.Ytfobmfngbfbfdaa
namespace Go.Proofs.Ytfobmfngbfbfdaa
set_option linter.unusedSimpArgs false
set_option linter.unusedVariables false
open Go.RowKit
def AscTo (xs:List Int) (k:Nat):Prop:=∀ i,i+1<k→ix xs i<ix xs (i+1)
noncomputable def ascB (xs:List Int):Bool:=@decide (AscTo xs xs.length) (Classical.propDecidable _)
open Classical in
noncomputable def firstIx (p:Nat→Prop):Nat→Nat
 | 0=>0
 | n+1=>if firstIx p n<n then firstIx p n else if p n then n else n+1
theorem firstIx_le (p:Nat→Prop) (n:Nat):firstIx p n≤n:=by
 induction n with
 | zero=>simp [firstIx]
 | succ n ih =>simp only [firstIx];split;· omega
               split <;> omega
theorem firstIx_none {p:Nat→Prop} {n:Nat} (h:∀ i,i<n→¬ p i):firstIx p n=n:=by
 induction n with
 | zero=>simp [firstIx]
 | succ n ih=>simp only [firstIx];rw [if_neg (by rw [ih fun i hi=>h i (by omega)];omega),if_neg (h n (by omega))]
theorem firstIx_eq {p:Nat→Prop} {n i:Nat} (hi:i<n) (hp:p i) (h:∀ j,j<i→¬ p j):firstIx p n=i:=by
 induction n with
 | zero=>omega
 | succ n ih =>
  simp only [firstIx]
  by_cases e:i=n
  ·subst e;rw [firstIx_none h,if_neg (by omega),if_pos hp]
  ·have:=ih (by omega);rw [this,if_pos (by omega)]
noncomputable def findF (xs:List Int) (v:Int):Int:=if firstIx (fun i=>ix xs i=v) xs.length<xs.length then (firstIx (fun i=>ix xs i=v) xs.length:Nat) else -1
theorem findF_none {xs:List Int} {v:Int} (h:∀ i,i<xs.length→ix xs i ≠ v):findF xs v = -1:=by
 unfold findF;rw [firstIx_none h,if_neg (by omega)]
theorem findF_eq {xs:List Int} {v:Int} {i:Nat} (hi:i<xs.length) (hp:ix xs i=v) (h:∀ j,j<i→ix xs j ≠ v):findF xs v=i:=by
 unfold findF;rw [firstIx_eq (p:=fun i=>ix xs i=v) hi hp h,if_pos hi]
noncomputable def seekF (xs:List Int) (from' v:Int):Int:=(firstIx (fun i=>from'≤(i:Int)∧v≤ix xs i) xs.length:Nat)
def eqL (xs ys:List Int):Bool:=decide (xs=ys)
set_option maxHeartbeats 400000 in
theorem specFind {fz:Bool} {lo hi:Nat} (a:Option Addr) (n c:Nat) (xs:List Int) (v:Int) (w:World) (h:IntsA fz lo hi w a n c xs) :
 Calls Try.prog 72 #[.slice a n c,.int .i64 v] w (Gives w (.int .i64 (findF xs v))):=by
 have hl:=h.len
 have hs:=h.small
 go_enter Try.func72,Try.ntmps72
 go_wp2
 go_loopw [5] (fun i wr=>∃ k:Nat,i=.int .i64 k∧k≤n∧(∀ j,j<k→ix xs j ≠ v)∧∃ m,wr=w.drewN m) (fun i _=>n - (intOf i).toNat)
 case atStart=>exact ⟨0,rfl,by omega,fun i hi=>by omega,0,rfl⟩
 case round =>
  obtain ⟨k,rfl,hk2,hA,m,rfl⟩:=hrel
  have HA:=hid hA;clear hA
  have HL:=hid hl;clear hl
  by_cases hlt:k<n
  ·obtain ⟨b,off,rfl,_,_,hc,_⟩:=h.open (by omega)
   have c0:=hc k (by omega)
   clear hc
   by_cases he:ix xs k=v
   ·have hb:(ix xs k == v)=true:=by simp [he]
    have He:=hid he;clear he
    go_wp2
    go_ret
    exact ⟨ret_int (findF_eq (by rw [HL.out];exact hlt) He.out HA.out).symm,_,rfl⟩
   ·have hb:(ix xs k == v)=false:=by simp [he]
    go_wp2
    go_roundw
    case rel=>exact ⟨k+1,by go_num,by omega,fun i hi=>by
     by_cases e:i=k
     ·subst e;assumption
     ·exact HA.out i (by omega),by first | exact ⟨_,rfl⟩ | exact ⟨_,dd⟩⟩
    case measure=>simp [intOf];omega
  ·go_wp2
   go_ret
   exact ⟨ret_int (findF_none (by rw [HL.out];intro i hi;exact HA.out i (by omega))).symm,_,rfl⟩
def lens (xss:List (List Int)):Nat→Nat
 | 0=>0
 | k+1=>lens xss k+(rx xss k).length
theorem lens_mono {xss:List (List Int)} {i k:Nat} (h:i≤k):lens xss i≤lens xss k:=by
 induction k with
 | zero =>obtain rfl:i=0:=by omega
          exact Nat.le_refl _
 | succ k ih =>
  by_cases e:i=k+1
  ·subst e;exact Nat.le_refl _
  ·have:=ih (by omega);simp only [lens];omega
theorem lens_row {xss:List (List Int)} {i k:Nat} (h:i<k):(rx xss i).length≤lens xss k:=by
 have:=lens_mono (xss:=xss) (i:=i+1) (k:=k) (by omega);simp only [lens] at this;omega
noncomputable def szF (xss:List (List Int)) (left:Int):Int:=if (xss.length+lens xss xss.length:Nat)≤left then left - (xss.length+lens xss xss.length:Nat) else -1
def rowsSz (xss:List (List Int)):Nat:=xss.length+lens xss xss.length
theorem rowsSz_row {xss:List (List Int)} {B:Nat} (h:rowsSz xss≤B) (i:Nat):(rx xss i).length≤B:=by
 unfold rowsSz at h
 by_cases hi:i<xss.length
 ·have:=lens_row (xss:=xss) hi;omega
 ·have:rx xss i=[]:=by simp [rx,List.getElem?_eq_none (by omega:xss.length≤i)]
  rw [this];simp
end Go.Proofs.Ytfobmfngbfbfdaa
namespace Go.Proofs.Ytfobmfngbfbfdaa
set_option linter.unusedSimpArgs false
set_option linter.unusedVariables false
open Go.RowKit
theorem implWithin (x lo hi:Int) (w:World):Calls Try.prog 35 #[.int .i64 x,.int .i64 lo,.int .i64 hi] w (Gives w (.bool (decide (lo≤x∧x≤hi)))):=by
 by_cases h1:lo≤x
 ·by_cases h2:x≤hi
  ·have hd:decide (lo≤x∧x≤hi)=true:=by simp;omega
   rw [hd]
   go_enter Try.func35,Try.ntmps35
   go_wp2
   go_ret
   exact ⟨rfl,0,rfl⟩
  ·have hd:decide (lo≤x∧x≤hi)=false:=by simp;omega
   rw [hd]
   go_enter Try.func35,Try.ntmps35
   go_wp2
   go_ret
   exact ⟨rfl,0,rfl⟩
 ·have hd:decide (lo≤x∧x≤hi)=false:=by simp;omega
  rw [hd]
  go_enter Try.func35,Try.ntmps35
  go_wp2
  go_ret
  exact ⟨rfl,0,rfl⟩
theorem specIn (x lo hi:Int) (w:World):Calls Try.prog 39 #[.int .i64 x,.int .i64 lo,.int .i64 hi] w (Gives w (.bool (decide (lo≤x∧x≤hi)))):=by
 by_cases h1:lo≤x
 ·by_cases h2:x≤hi
  ·have hd:decide (lo≤x∧x≤hi)=true:=by simp;omega
   rw [hd]
   go_enter Try.func39,Try.ntmps39
   go_wp2
   go_ret
   exact ⟨rfl,0,rfl⟩
  ·have hd:decide (lo≤x∧x≤hi)=false:=by simp;omega
   rw [hd]
   go_enter Try.func39,Try.ntmps39
   go_wp2
   go_ret
   exact ⟨rfl,0,rfl⟩
 ·have hd:decide (lo≤x∧x≤hi)=false:=by simp;omega
  rw [hd]
  go_enter Try.func39,Try.ntmps39
  go_wp2
  go_ret
  exact ⟨rfl,0,rfl⟩
theorem IntsA.take {fz:Bool} {lo hi:Nat} {w:World} {a:Option Addr} {n c:Nat} {xs:List Int} (h:IntsA fz lo hi w a n c xs) {j:Nat} (hj:j≤n):IntsA fz lo hi w a j c (xs.take j):=by
 obtain ⟨h1,h2,h3,h4,h5,h6⟩:=h
 refine ⟨by simp;omega,by omega,h3,fun z hz=>h4 z (List.mem_of_mem_take hz),fun hn=>?_,h6⟩
 obtain ⟨b,off,ha,hl,hb,hc⟩:=h5 (by omega)
 refine ⟨b,off,ha,hl,hb,fun i hi=>?_⟩
 obtain ⟨g1,g2⟩:=hc i (by omega)
 refine ⟨?_,g2⟩
 rw [g1];simp [ix,hi]
def SetTo (xs:List Int) (n:Int) (k:Nat):Prop:=∀ i,i<k→(0≤ix xs i∧ix xs i≤n - 1)∧¬ 0≤findF (xs.take i) (ix xs i)
open Classical in
noncomputable def setB (xs:List Int) (n:Int):Bool:=decide (SetTo xs n xs.length)
theorem setB_true {xs:List Int} {n:Int} (h:SetTo xs n xs.length):setB xs n=true:=by simp [setB,h]
theorem setB_false {xs:List Int} {n:Int} {i:Nat} (hi:i<xs.length) (h:¬ ((0≤ix xs i∧ix xs i≤n - 1)∧¬ 0≤findF (xs.take i) (ix xs i))):setB xs n=false:=by
 simp only [setB,decide_eq_false_iff_not];intro hh;exact h (hh i hi)
theorem SetTo.succ {xs:List Int} {n:Int} {k:Nat} (h:SetTo xs n k) (h1:(0≤ix xs k∧ix xs k≤n - 1)∧¬ 0≤findF (xs.take k) (ix xs k)):SetTo xs n (k+1):=by
 intro i hi
 by_cases e:i=k
 ·subst e;exact h1
 ·exact h i (by omega)
noncomputable def permB (xs:List Int):Bool:=decide (xs.length≤5) && setB xs xs.length
set_option maxHeartbeats 800000 in
theorem specPerm {fz:Bool} {lo hi:Nat} (a:Option Addr) (n c:Nat) (xs:List Int) (w:World) (hI:IntsA fz lo hi w a n c xs) :
 Calls Try.prog 70 #[.slice a n c] w (Gives w (.bool (permB xs))):=by
 have hl:=hI.len
 have hs:=hI.small
 have hnc:=hI.2.1
 have hcm:=hI.2.2.1
 have HL:=hid hl;clear hl
 go_enter Try.func70,Try.ntmps70
 go_wp2
 go_loopw [3] (fun i wr=>∃ k:Nat,i=.int .i64 k∧k≤n∧Hid (SetTo xs n k)∧∃ m,wr=w.drewN m) (fun i _=>n - (intOf i).toNat)
 case atStart=>exact ⟨0,rfl,by omega,hid (fun i hi=>by omega),0,rfl⟩
 case round =>
  obtain ⟨k,rfl,hk,HT,m,rfl⟩:=hrel
  by_cases hlt:k<n
  ·obtain ⟨b,off,rfl,_,_,hc,_⟩:=hI.open (by omega)
   have c0:=hc k hlt
   have hJ:=hI.take (j:=k) (by omega)
   have HC:=hid hc;clear hc
   have hx:=hI.at hlt
   generalize hxe:ix xs k=x at *
   have HX:=hid hxe;clear hxe
   have HJ:=hid hJ;clear hJ
   obtain ⟨wo,hwo⟩:∃ wo:World,wo=w.drewN m:=⟨_,rfl⟩
   rw [← hwo]
   have co:wo.cell? ⟨b,off+k,none⟩=some (.int .i64 x):=by rw [hwo];exact c0
   have HJo:Hid (IntsA fz lo hi wo (some ⟨b,off,none⟩) k c (xs.take k)):=hid (by rw [hwo];exact HJ.out.drewN m)
   have HD:=hid hwo;clear hwo c0
   by_cases hw:0≤x∧x≤(n:Int) - 1
   ·have hd:decide (0≤x∧x≤(n:Int) - 1)=true:=by simpa using hw
    have hcW:∀ w',Calls Try.prog 39 #[.int .i64 x,.int .i64 0,.int .i64 ((n:Int) - 1)] w' (Gives w' (.bool true)):=fun w'=>by have:=specIn x 0 (n - 1) w';rwa [hd] at this
    have HW:=hid hcW;clear hcW
    obtain ⟨f,hfe⟩:∃ f,findF (xs.take k) x=f:=⟨_,rfl⟩
    have hcF:∀ w',IntsA fz lo hi w' (some ⟨b,off,none⟩) k c (xs.take k)→Calls Try.prog 72 #[.slice (some ⟨b,off,none⟩) k c,.int .i64 x] w' (Gives w' (.int .i64 f)):=fun w' h=>by have:=specFind _ k c (xs.take k) x w' h;rwa [hfe] at this
    have HCF:=hid hcF;clear hcF
    by_cases hf:0≤f
    ·have hF:=hid (setB_false (xs:=xs) (n:=n) (i:=k) (by rw [HL.out];exact hlt) (by rw [HX.out,hfe];exact fun h=>h.2 hf))
     clear hfe
     go_wp2
     go_quiet (first
      | (go_at_call 39;exact (Calls.quiet_of (HW.out _)))
      | (go_at_call 72;exact (Calls.quiet_of (HCF.out _ (HJo.out.drewN _)))))
     go_wp2
     go_ret
     exact ⟨by have:=hF.out;unfold permB;rw [HL.out,this];simp,by rw [HD.out];first | exact ⟨_,rfl⟩ | exact ⟨_,dd⟩⟩
    ·have HT2:=hid (HT.out.succ (by rw [HX.out,hfe];exact ⟨hw,hf⟩))
     clear hfe
     go_wp2
     go_quiet (first
      | (go_at_call 39;exact (Calls.quiet_of (HW.out _)))
      | (go_at_call 72;exact (Calls.quiet_of (HCF.out _ (HJo.out.drewN _)))))
     go_wp2
     go_roundw
     case rel=>exact ⟨k+1,by go_num,by omega,HT2,by rw [HD.out];first | exact ⟨_,rfl⟩ | exact ⟨_,dd⟩⟩
     case measure=>simp [intOf];omega
   ·have hd:decide (0≤x∧x≤(n:Int) - 1)=false:=by simpa using hw
    have hcW:∀ w',Calls Try.prog 39 #[.int .i64 x,.int .i64 0,.int .i64 ((n:Int) - 1)] w' (Gives w' (.bool false)):=fun w'=>by have:=specIn x 0 (n - 1) w';rwa [hd] at this
    have HW:=hid hcW;clear hcW
    have hF:=hid (setB_false (xs:=xs) (n:=n) (i:=k) (by rw [HL.out];exact hlt) (by rw [HX.out];exact fun h=>hw h.1))
    go_wp2
    go_quiet ((go_at_call 39;exact (Calls.quiet_of (HW.out _))))
    go_wp2
    go_ret
    exact ⟨by have:=hF.out;unfold permB;rw [HL.out,this];simp,by rw [HD.out];first | exact ⟨_,rfl⟩ | exact ⟨_,dd⟩⟩
  ·have hkn:k=n:=by omega
   have hS:=hid (setB_true (xs:=xs) (n:=n) (by rw [HL.out];have:=HT.out;rwa [hkn] at this))
   by_cases h5:n≤5
   ·go_wp2
    go_ret
    exact ⟨by have:=hS.out;unfold permB;rw [HL.out,this];simp [h5];omega,by first | exact ⟨_,rfl⟩ | exact ⟨_,dd⟩⟩
   ·go_wp2
    go_ret
    exact ⟨by unfold permB;rw [HL.out];simp [h5];omega,by first | exact ⟨_,rfl⟩ | exact ⟨_,dd⟩⟩
end Go.Proofs.Ytfobmfngbfbfdaa
namespace Go.Proofs.Ytfobmfngbfbfdaa
set_option linter.unusedSimpArgs false
set_option linter.unusedVariables false
open Go.RowKit
def cmpI (x y:Int):Int:=if x<y then -1 else if y<x then 1 else 0
theorem implCmp (x y:Int) (w:World):Calls Try.prog 73 #[.int .i64 x,.int .i64 y] w (Gives w (.int .i64 (cmpI x y))):=by
 rcases Int.lt_trichotomy x y with h | h | h
 ·have hc:cmpI x y = -1:=by unfold cmpI;rw [if_pos h]
  rw [hc]
  go_enter Try.func73,Try.ntmps73
  go_wp2
  go_ret
  exact ⟨rfl,0,rfl⟩
 ·have hc:cmpI x y=0:=by unfold cmpI;rw [if_neg (by omega),if_neg (by omega)]
  rw [hc]
  have h1:¬ x<y:=by omega
  have h2:¬ y<x:=by omega
  clear h
  go_enter Try.func73,Try.ntmps73
  go_wp2
  go_ret
  exact ⟨rfl,0,rfl⟩
 ·have hc:cmpI x y=1:=by unfold cmpI;rw [if_neg (by omega),if_pos h]
  rw [hc]
  go_enter Try.func73,Try.ntmps73
  go_wp2
  go_ret
  exact ⟨rfl,0,rfl⟩
def ValTo (xs:List Int) (k:Nat):Prop:=∀ i,i<k→0≤ix xs i∧ix xs i≤99
open Classical in
noncomputable def valB (xs:List Int):Bool:=decide (ValTo xs xs.length)
theorem valB_true {xs:List Int} (h:ValTo xs xs.length):valB xs=true:=by simp [valB,h]
theorem valB_false {xs:List Int} {i:Nat} (hi:i<xs.length) (h:¬ (0≤ix xs i∧ix xs i≤99)):valB xs=false:=by
 simp only [valB,decide_eq_false_iff_not];intro hh;exact h (hh i hi)
set_option maxHeartbeats 800000 in
theorem implVals {fz:Bool} {lo hi:Nat} (a:Option Addr) (n c:Nat) (xs:List Int) (w:World) (hI:IntsA fz lo hi w a n c xs) :
 Calls Try.prog 67 #[.slice a n c] w (Gives w (.bool (valB xs))):=by
 have hl:=hI.len
 have hs:=hI.small
 have HL:=hid hl;clear hl
 go_enter Try.func67,Try.ntmps67
 go_wp2
 go_loopw [7] (fun i wr=>∃ k:Nat,i=.int .i64 k∧k≤n∧Hid (ValTo xs k)∧∃ m,wr=w.drewN m) (fun i _=>n - (intOf i).toNat)
 case atStart=>exact ⟨0,rfl,by omega,hid (fun i hi=>by omega),0,rfl⟩
 case round =>
  obtain ⟨k,rfl,hk,HT,m,rfl⟩:=hrel
  by_cases hlt:k<n
  ·obtain ⟨b,off,rfl,_,_,hc,_⟩:=hI.open (by omega)
   have c0:=hc k hlt
   clear hc
   generalize hxe:ix xs k=x at *
   have HX:=hid hxe;clear hxe
   go_wp2_with fail
   refine (implWithin x 0 99 _).mono ?_
   rintro e w1 ⟨rfl,m1,rfl⟩
   by_cases hw:0≤x∧x≤99
   ·have hd:decide (0≤x∧x≤99)=true:=by simpa using hw
    rw [hd]
    have HT2:Hid (ValTo xs (k+1)):=hid (fun i hi=>by
     by_cases e:i=k
     ·subst e;rw [HX.out];exact hw
     ·exact HT.out i (by omega))
    go_wp2_with fail
    go_roundw
    case rel=>exact ⟨k+1,by go_num,by omega,HT2,by first | exact ⟨_,rfl⟩ | exact ⟨_,dd⟩⟩
    case measure=>simp [intOf];omega
   ·have hd:decide (0≤x∧x≤99)=false:=by simpa using hw
    rw [hd]
    have hF:=hid (valB_false (xs:=xs) (i:=k) (by rw [HL.out];exact hlt) (by rw [HX.out];exact hw))
    go_wp2_with fail
    go_ret
    exact ⟨by rw [hF.out];rfl,by first | exact ⟨_,rfl⟩ | exact ⟨_,dd⟩⟩
  ·go_wp2
   go_ret
   obtain rfl:k=n:=by omega
   exact ⟨by rw [valB_true (by rw [HL.out];exact HT.out)];rfl,by first | exact ⟨_,rfl⟩ | exact ⟨_,dd⟩⟩
def cmpR:List Int→List Int→Int
 | x :: xs,y :: ys=>if x=y then cmpR xs ys else cmpI x y
 | [],[]=>0
 | [],_ :: _=>-1
 | _ :: _,[]=>1
theorem cmpR_drop {xs ys:List Int} {k:Nat} (h:∀ i,i<k→ix xs i=ix ys i) (h1:k≤xs.length) (h2:k≤ys.length):cmpR xs ys=cmpR (xs.drop k) (ys.drop k):=by
 induction k generalizing xs ys with
 | zero=>rfl
 | succ k ih =>
  cases xs with
  | nil=>simp at h1
  | cons x xs =>
   cases ys with
   | nil=>simp at h2
   | cons y ys =>
    have h0:=h 0 (by omega)
    simp only [ix,List.getD,List.getElem?_cons_zero,Option.getD_some] at h0
    subst h0
    simp only [cmpR,if_true,List.drop_succ_cons]
    exact ih (fun i hi=>by have:=h (i+1) (by omega);simpa [ix,List.getD] using this) (by simpa using h1) (by simpa using h2)
theorem cmpR_at {xs ys:List Int} {k:Nat} (h:∀ i,i<k→ix xs i=ix ys i) (h1:k<xs.length) (h2:k<ys.length) (hne:ix xs k ≠ ix ys k):cmpR xs ys=cmpI (ix xs k) (ix ys k):=by
 rw [cmpR_drop h (by omega) (by omega),List.drop_eq_getElem_cons h1,List.drop_eq_getElem_cons h2]
 rw [ix_lt h1,ix_lt h2] at hne ⊢
 simp only [cmpR,if_neg hne]
theorem cmpR_end {xs ys:List Int} {k:Nat} (h:∀ i,i<k→ix xs i=ix ys i) (h1:k≤xs.length) (h2:k≤ys.length) (he:k=xs.length∨k=ys.length):cmpR xs ys=cmpI xs.length ys.length:=by
 rw [cmpR_drop h h1 h2]
 rcases he with e | e
 ·rw [List.drop_of_length_le (by omega)]
  by_cases g:k=ys.length
  ·rw [List.drop_of_length_le (by omega)]
   simp only [cmpR,cmpI]
   rw [if_neg (by omega),if_neg (by omega)]
  ·rw [List.drop_eq_getElem_cons (by omega:k<ys.length)]
   simp only [cmpR,cmpI]
   rw [if_pos (by omega)]
 ·rw [show ys.drop k=[] from List.drop_of_length_le (by omega)]
  by_cases g:k=xs.length
  ·rw [List.drop_of_length_le (by omega)]
   simp only [cmpR,cmpI]
   rw [if_neg (by omega),if_neg (by omega)]
  ·rw [List.drop_eq_getElem_cons (by omega:k<xs.length)]
   simp only [cmpR,cmpI]
   rw [if_neg (by omega),if_pos (by omega)]
set_option maxHeartbeats 1600000 in
theorem implCmpR {fz fz':Bool} {lo hi lo' hi':Nat} (a a':Option Addr) (n c n' c':Nat) (xs ys:List Int) (w:World) (hI:IntsA fz lo hi w a n c xs) (hJ:IntsA fz' lo' hi' w a' n' c' ys) :
 Calls Try.prog 68 #[.slice a n c,.slice a' n' c'] w (Gives w (.int .i64 (cmpR xs ys))):=by
 have hl:=hI.len
 have hs:=hI.small
 have hl':=hJ.len
 have hs':=hJ.small
 have HL:=hid (And.intro hl hl');clear hl hl'
 go_enter Try.func68,Try.ntmps68
 go_wp2
 go_loopw [5] (fun i wr=>∃ k:Nat,i=.int .i64 k∧k≤n∧k≤n'∧Hid (∀ i,i<k→ix xs i=ix ys i)∧∃ m,wr=w.drewN m) (fun i _=>n - (intOf i).toNat)
 case atStart=>exact ⟨0,rfl,by omega,by omega,hid (fun i hi=>by omega),0,rfl⟩
 case round =>
  obtain ⟨k,rfl,hk,hk',HT,m,rfl⟩:=hrel
  by_cases hlt:k<n
  ·by_cases hlt':k<n'
   ·obtain ⟨b,off,rfl,_,_,hc,_⟩:=hI.open (by omega)
    obtain ⟨b',off',rfl,_,_,hc',_⟩:=hJ.open (by omega)
    have c0:=hc k hlt
    have c0':=hc' k hlt'
    clear hc hc'
    generalize hxe:ix xs k=x at *
    generalize hye:ix ys k=y at *
    have HX:=hid (And.intro hxe hye);clear hxe hye
    by_cases he:x=y
    ·have hb:(x != y)=false:=by simp [he]
     have HT2:Hid (∀ i,i<k+1→ix xs i=ix ys i):=hid (fun i hi=>by
      by_cases e:i=k
      ·subst e;rw [HX.out.1,HX.out.2];exact he
      ·exact HT.out i (by omega))
     have HE:=hid he;clear he
     obtain ⟨wo,hwo⟩:∃ wo:World,wo=w.drewN m:=⟨_,rfl⟩
     have d0:wo.cell? ⟨b,off+k,none⟩=some (.int .i64 x):=by rw [hwo];exact c0
     have d0':wo.cell? ⟨b',off'+k,none⟩=some (.int .i64 y):=by rw [hwo];exact c0'
     rw [← hwo]
     have HD:=hid hwo;clear hwo
     go_wp2
     go_quiet (fail)
     go_wp2
     go_roundw
     case rel=>exact ⟨k+1,by go_num,by omega,by omega,HT2,by rw [HD.out];first | exact ⟨_,rfl⟩ | exact ⟨_,dd⟩⟩
     case measure=>simp [intOf];omega
    ·have hb:(x != y)=true:=by simp [he]
     have HC:=hid (cmpR_at HT.out (by rw [HL.out.1];exact hlt) (by rw [HL.out.2];exact hlt') (by rw [HX.out.1,HX.out.2];exact he))
     have HE:=hid he;clear he
     obtain ⟨wo,hwo⟩:∃ wo:World,wo=w.drewN m:=⟨_,rfl⟩
     have d0:wo.cell? ⟨b,off+k,none⟩=some (.int .i64 x):=by rw [hwo];exact c0
     have d0':wo.cell? ⟨b',off'+k,none⟩=some (.int .i64 y):=by rw [hwo];exact c0'
     rw [← hwo]
     have HD:=hid hwo;clear hwo
     go_wp2
     go_quiet (fail)
     go_wp2
     generalize hwp:World.drewN wo _=wp
     have e0:wp.cell? ⟨b,off+k,none⟩=some (.int .i64 x):=by rw [← hwp];exact d0
     have e0':wp.cell? ⟨b',off'+k,none⟩=some (.int .i64 y):=by rw [← hwp];exact d0'
     have HP:Hid (∃ q,wp=w.drewN q):=hid (by rw [← hwp,HD.out];first | exact ⟨_,rfl⟩ | exact ⟨_,dd⟩)
     clear hwp d0 d0'
     go_quiet ((go_at_call 73;exact (Calls.quiet_of (implCmp x y _))))
     go_wp2
     go_ret
     exact ⟨by rw [HC.out,HX.out.1,HX.out.2];rfl,dr_more HP.out _⟩
   ·obtain rfl:k=n':=by omega
    have HC:=hid (cmpR_end HT.out (by rw [HL.out.1];omega) (by rw [HL.out.2];omega) (.inr HL.out.2.symm))
    go_wp2_with fail
    refine (implCmp _ _ _).mono ?_
    rintro e w1 ⟨rfl,m1,rfl⟩
    go_wp2_with fail
    go_ret
    exact ⟨by rw [HC.out,HL.out.1,HL.out.2];rfl,by first | exact ⟨_,rfl⟩ | exact ⟨_,dd⟩⟩
  ·obtain rfl:k=n:=by omega
   have HC:=hid (cmpR_end HT.out (by rw [HL.out.1];omega) (by rw [HL.out.2];omega) (.inl HL.out.1.symm))
   go_wp2_with fail
   refine (implCmp _ _ _).mono ?_
   rintro e w1 ⟨rfl,m1,rfl⟩
   go_wp2_with fail
   go_ret
   exact ⟨by rw [HC.out,HL.out.1,HL.out.2];rfl,by first | exact ⟨_,rfl⟩ | exact ⟨_,dd⟩⟩
set_option maxHeartbeats 800000 in
theorem specVals {fz:Bool} {lo hi:Nat} (a:Option Addr) (n c:Nat) (xs:List Int) (w:World) (hI:IntsA fz lo hi w a n c xs) :
 Calls Try.prog 61 #[.slice a n c] w (Gives w (.bool (valB xs))):=by
 have hl:=hI.len
 have hs:=hI.small
 have HL:=hid hl;clear hl
 go_enter Try.func61,Try.ntmps61
 go_wp2
 go_loopw [3] (fun i wr=>∃ k:Nat,i=.int .i64 k∧k≤n∧Hid (ValTo xs k)∧∃ m,wr=w.drewN m) (fun i _=>n - (intOf i).toNat)
 case atStart=>exact ⟨0,rfl,by omega,hid (fun i hi=>by omega),0,rfl⟩
 case round =>
  obtain ⟨k,rfl,hk,HT,m,rfl⟩:=hrel
  by_cases hlt:k<n
  ·obtain ⟨b,off,rfl,_,_,hc,_⟩:=hI.open (by omega)
   have c0:=hc k hlt
   clear hc
   generalize hxe:ix xs k=x at *
   have HX:=hid hxe;clear hxe
   go_wp2_with fail
   refine (specIn x 0 99 _).mono ?_
   rintro e w1 ⟨rfl,m1,rfl⟩
   by_cases hw:0≤x∧x≤99
   ·have hd:decide (0≤x∧x≤99)=true:=by simpa using hw
    rw [hd]
    have HT2:Hid (ValTo xs (k+1)):=hid (fun i hi=>by
     by_cases e:i=k
     ·subst e;rw [HX.out];exact hw
     ·exact HT.out i (by omega))
    go_wp2_with fail
    go_roundw
    case rel=>exact ⟨k+1,by go_num,by omega,HT2,by first | exact ⟨_,rfl⟩ | exact ⟨_,dd⟩⟩
    case measure=>simp [intOf];omega
   ·have hd:decide (0≤x∧x≤99)=false:=by simpa using hw
    rw [hd]
    have hF:=hid (valB_false (xs:=xs) (i:=k) (by rw [HL.out];exact hlt) (by rw [HX.out];exact hw))
    go_wp2_with fail
    go_ret
    exact ⟨by rw [hF.out];rfl,by first | exact ⟨_,rfl⟩ | exact ⟨_,dd⟩⟩
  ·go_wp2
   go_ret
   obtain rfl:k=n:=by omega
   exact ⟨by rw [valB_true (by rw [HL.out];exact HT.out)];rfl,by first | exact ⟨_,rfl⟩ | exact ⟨_,dd⟩⟩
set_option maxHeartbeats 1600000 in
theorem specCmpR {fz fz':Bool} {lo hi lo' hi':Nat} (a a':Option Addr) (n c n' c':Nat) (xs ys:List Int) (w:World) (hI:IntsA fz lo hi w a n c xs) (hJ:IntsA fz' lo' hi' w a' n' c' ys) :
 Calls Try.prog 33 #[.slice a n c,.slice a' n' c'] w (Gives w (.int .i64 (cmpR xs ys))):=by
 have hl:=hI.len
 have hs:=hI.small
 have hl':=hJ.len
 have hs':=hJ.small
 have HL:=hid (And.intro hl hl');clear hl hl'
 go_enter Try.func33,Try.ntmps33
 go_wp2
 go_loopw [5] (fun i wr=>∃ k:Nat,i=.int .i64 k∧k≤n∧k≤n'∧Hid (∀ i,i<k→ix xs i=ix ys i)∧Hid (∃ m,wr=w.drewN m)) (fun i _=>n - (intOf i).toNat)
 case atStart=>exact ⟨0,rfl,by omega,by omega,hid (fun i hi=>by omega),hid ⟨0,rfl⟩⟩
 case round =>
  obtain ⟨k,rfl,hk,hk',HT,HD⟩:=hrel
  by_cases hlt:k<n
  ·by_cases hlt':k<n'
   ·have hIr:=hI.keep (keeps_dr lo hi HD.out)
    have hJr:=hJ.keep (keeps_dr lo' hi' HD.out)
    obtain ⟨b,off,rfl,_,_,hc,_⟩:=hIr.open (by omega)
    obtain ⟨b',off',rfl,_,_,hc',_⟩:=hJr.open (by omega)
    have c0:=hc k hlt
    have c0':=hc' k hlt'
    clear hc hc'
    have HI:=hid (And.intro (And.intro hI hJ) (And.intro hIr hJr));clear hI hJ hIr hJr
    generalize hxe:ix xs k=x at *
    generalize hye:ix ys k=y at *
    have HX:=hid (And.intro hxe hye);clear hxe hye
    by_cases he:x=y
    ·have h1:¬ x<y:=by omega
     have h2:¬ y<x:=by omega
     have HT2:Hid (∀ i,i<k+1→ix xs i=ix ys i):=hid (fun i hi=>by
      by_cases e:i=k
      ·subst e;rw [HX.out.1,HX.out.2];exact he
      ·exact HT.out i (by omega))
     have HE:=hid he;clear he
     go_wp2
     go_quiet (fail)
     go_wp2
     go_quiet (fail)
     go_wp2
     go_roundw
     case rel=>exact ⟨k+1,by go_num,by omega,by omega,HT2,hid (by first | exact dr_more HD.out _ | (rw [dd];exact dr_more HD.out _))⟩
     case measure=>simp [intOf];omega
    ·have HC:=hid (cmpR_at HT.out (by rw [HL.out.1];exact hlt) (by rw [HL.out.2];exact hlt') (by rw [HX.out.1,HX.out.2];exact he))
     rcases Int.lt_or_gt_of_ne he with h1 | h1
     ·have HM:=hid (show cmpI x y = -1 by unfold cmpI;rw [if_pos h1])
      have HE:=hid he;clear he
      go_wp2
      go_quiet (fail)
      go_wp2
      go_ret
      exact ⟨by rw [HC.out,HX.out.1,HX.out.2,HM.out];rfl,by first | exact dr_more HD.out _ | (rw [dd];exact dr_more HD.out _)⟩
     ·have HM:=hid (show cmpI x y=1 by unfold cmpI;rw [if_neg (by omega),if_pos h1])
      have h2:¬ x<y:=by omega
      have HE:=hid he;clear he
      go_wp2
      go_quiet (fail)
      go_wp2
      go_quiet (fail)
      go_wp2
      go_ret
      exact ⟨by rw [HC.out,HX.out.1,HX.out.2,HM.out];rfl,by first | exact dr_more HD.out _ | (rw [dd];exact dr_more HD.out _)⟩
   ·obtain rfl:k=n':=by omega
    have HC:=hid (cmpR_end HT.out (by rw [HL.out.1];omega) (by rw [HL.out.2];omega) (.inr HL.out.2.symm))
    have HM:=hid (show cmpI n k=1 by unfold cmpI;rw [if_neg (by omega),if_pos (by omega)])
    go_wp2
    go_ret
    exact ⟨by rw [HC.out,HL.out.1,HL.out.2,HM.out];rfl,HD.out⟩
  ·obtain rfl:k=n:=by omega
   have HC:=hid (cmpR_end HT.out (by rw [HL.out.1];omega) (by rw [HL.out.2];omega) (.inl HL.out.1.symm))
   by_cases h2:k<n'
   ·have HM:=hid (show cmpI k n' = -1 by unfold cmpI;rw [if_pos (by omega)])
    go_wp2
    go_ret
    exact ⟨by rw [HC.out,HL.out.1,HL.out.2,HM.out];rfl,HD.out⟩
   ·have HM:=hid (show cmpI k n'=0 by unfold cmpI;rw [if_neg (by omega),if_neg (by omega)])
    go_wp2
    go_ret
    exact ⟨by rw [HC.out,HL.out.1,HL.out.2,HM.out];rfl,HD.out⟩
end Go.Proofs.Ytfobmfngbfbfdaa
namespace Go.Proofs.Ytfobmfngbfbfdaa
set_option linter.unusedSimpArgs false
set_option linter.unusedVariables false
open Go.RowKit
def eqLL (xs ys:List (List Int)):Bool:=decide (xs=ys)
theorem rx_ext {xs ys:List (List Int)} (hl:xs.length=ys.length) (h:∀ i,i<xs.length→rx xs i=rx ys i):xs=ys :=
 List.ext_getElem hl fun i h1 h2=>by have:=h i h1;rwa [rx_lt h1,rx_lt h2] at this
theorem eqLL_len {xs ys:List (List Int)} (h:xs.length ≠ ys.length):eqLL xs ys=false:=by simp only [eqLL,decide_eq_false_iff_not];rintro rfl;exact h rfl
theorem eqLL_ne {xs ys:List (List Int)} {i:Nat} (h:rx xs i ≠ rx ys i):eqLL xs ys=false:=by simp only [eqLL,decide_eq_false_iff_not];rintro rfl;exact h rfl
theorem eqLL_true {xs ys:List (List Int)} (hl:xs.length=ys.length) (h:∀ i,i<xs.length→rx xs i=rx ys i):eqLL xs ys=true:=by simp [eqLL,rx_ext hl h]
noncomputable def ascAll (xss:List (List Int)):Bool:=@decide (0<xss.length∧∀ i,i<xss.length→ascB (rx xss i)=true) (Classical.propDecidable _)
theorem infoRow:(Try.prog.info? 27).map (fun i=>(i.zero,i.size,i.bytes))=some (some (.slice none 0 0),1,24):=by kernel_rfl
def RowsTo (g:Nat) (w:World) (n:Nat) (xss:List (List Int)) (k:Nat):Prop :=
 ∃ vs,w.ownsRow g 27 1 (.slice (some ⟨g,0,none⟩) n n) n vs∧∀ i,i<k→∃ ra rn rc,vs[i]? = some (.slice ra rn rc)∧IntsA true (g+1) w.heap.size w ra rn rc (rx xss i)
theorem RowsTo.put {g:Nat} {w w1:World} {n:Nat} {xss:List (List Int)} {k:Nat} (h:RowsTo g w n xss k) (hk:k<n) (hg:g<w.heap.size) (hb:Below w.heap.size w w1) {ra:Option Addr} {rn rc:Nat}
 (hr:IntsA true w.heap.size w1.heap.size w1 ra rn rc (rx xss k)):RowsTo g (w1.setCell ⟨g,k,none⟩ (.slice ra rn rc)) n xss (k+1)∧Below g w (w1.setCell ⟨g,k,none⟩ (.slice ra rn rc)) ∧
  (∃ v0,w1.cell? ⟨g,k,none⟩=some v0)∧w1.frozen? ⟨g,k,none⟩=false:=by
 obtain ⟨vs,ho,hv⟩:=h
 have hlen:vs.length=n:=by have:=ho.1;omega
 have ho1:w1.ownsRow g 27 1 (.slice (some ⟨g,0,none⟩) n n) n vs:=ho.kept (row:=none) ⟨hb.os,hb.tape,hb.output,hb.size,fun k hk _=>hb.block k hk⟩ (.inr (by simp [Value.ownBlock]))
 obtain ⟨hs1,hs2⟩:=ho1.stored k (.slice ra rn rc)
 have hsz:(w1.setCell ⟨g,k,none⟩ (.slice ra rn rc)).heap.size=w1.heap.size:=by simp [World.setCell]
 have hbs:=hb.size
 have hset:Keeps (g+1) w1.heap.size w1 (w1.setCell ⟨g,k,none⟩ (.slice ra rn rc)):=fun j h1 h2=>hs2.block j h2 (by intro e;cases e;omega)
 refine ⟨⟨_,hs1,fun i hi=>?_⟩,(hb.mono (by omega)).grown hs2 (by omega) (fun j hj=>by cases hj;exact Nat.le_refl _),?_,ho1.frozenAt k⟩
 ·by_cases e:i=k
  ·subst e
   exact ⟨ra,rn,rc,by simp [hlen,hk],by rw [hsz];exact (hr.wide (by omega) (Nat.le_refl _)).keep hset⟩
  ·obtain ⟨ra',rn',rc',g1,g2⟩:=hv i (by omega)
   exact ⟨ra',rn',rc',by rw [List.getElem?_set_ne (by omega)];exact g1,by
    rw [hsz];exact ((g2.keep (Keeps.of_below hb (Nat.le_refl _))).wide (Nat.le_refl _) hbs).keep hset⟩
 ·have:=ho1.cells (g:=g) rfl k vs[k] (by simp [hlen,hk])
  rw [Addr.add_lit] at this;exact ⟨_,by simpa using this⟩
end Go.Proofs.Ytfobmfngbfbfdaa
namespace Go.Proofs.Ytfobmfngbfbfdaa
set_option linter.unusedSimpArgs false
set_option linter.unusedVariables false
open Go.RowKit
def RowOK (ar:Int) (rows:List (List Int)) (i:Nat):Prop:=((rx rows i).length:Int)=ar∧valB (rx rows i)=true∧(0<i→cmpR (rx rows (i - 1)) (rx rows i)<0)
open Classical in
noncomputable def validR (ar:Int) (rows:List (List Int)):Bool:=decide ((0≤ar∧ar≤5)∧rows.length≤4000∧∀ i,i<rows.length→RowOK ar rows i)
theorem validR_true {ar:Int} {rows:List (List Int)} (h1:0≤ar∧ar≤5) (h2:rows.length≤4000) (h3:∀ i,i<rows.length→RowOK ar rows i):validR ar rows=true:=by
 simp only [validR,decide_eq_true_eq];exact ⟨h1,h2,h3⟩
theorem validR_ar {ar:Int} {rows:List (List Int)} (h1:¬ (0≤ar∧ar≤5)):validR ar rows=false:=by
 simp only [validR,decide_eq_false_iff_not];exact fun h=>h1 h.1
theorem validR_big {ar:Int} {rows:List (List Int)} (h1:¬ rows.length≤4000):validR ar rows=false:=by
 simp only [validR,decide_eq_false_iff_not];exact fun h=>h1 h.2.1
theorem validR_row {ar:Int} {rows:List (List Int)} {i:Nat} (hi:i<rows.length) (h1:¬ RowOK ar rows i):validR ar rows=false:=by
 simp only [validR,decide_eq_false_iff_not];exact fun h=>h1 (h.2.2 i hi)
theorem validR_out {ar:Int} {rows:List (List Int)} (h:validR ar rows=true):(0≤ar∧ar≤5)∧rows.length≤4000∧∀ i,i<rows.length→RowOK ar rows i:=by
 simpa only [validR,decide_eq_true_eq] using h
set_option maxHeartbeats 1600000 in
theorem implRowsValid {fz:Bool} {lo hi:Nat} (ar:Int) (a:Option Addr) (n c:Nat) (rows:List (List Int)) (w:World) (hI:RowsA fz lo hi w a n c rows) (har:I64 ar) :
 Calls Try.prog 60 #[.int .i64 ar,.slice a n c] w (Gives w (.bool (validR ar rows))):=by
 have hl:=hI.len
 have hs:=hI.small
 have HL:=hid hl;clear hl
 have HAR:=hid har;clear har
 by_cases hw:0≤ar∧ar≤5
 ·have hd:decide (0≤ar∧ar≤5)=true:=by simpa using hw
  by_cases hn:n≤4000
  ·go_enter Try.func60,Try.ntmps60
   go_wp2_with fail
   refine (implWithin ar 0 5 _).mono ?_
   rintro e w1 ⟨rfl,m1,hw1⟩
   rw [hd]
   have HD1:Hid (∃ m,w1=w.drewN m):=hid ⟨m1,hw1⟩
   clear hw1
   go_wp2_with fail
   go_loopw [17] (fun i wr=>∃ k:Nat,i=.int .i64 k∧k≤n∧Hid (∀ i,i<k→RowOK ar rows i)∧Hid (∃ m,wr=w.drewN m)) (fun i _=>n - (intOf i).toNat)
   case atStart=>exact ⟨0,rfl,by omega,hid (fun i hi=>by omega),HD1⟩
   case round =>
    obtain ⟨k,rfl,hk,HT,HD⟩:=hrel
    by_cases hlt:k<n
    ·have hIr:RowsA fz lo hi wr a n c rows:=hI.keep intsOK (keeps_dr lo hi HD.out)
     obtain ⟨b,off,rfl⟩:=hI.some (by omega)
     obtain ⟨_,_,ra,rn,rc,hc,hr,_⟩:=hIr.at hlt
     have hrl:=hr.len
     have hrs:=hr.small
     have HRL:=hid hrl;clear hrl
     have HR:=hid hr;clear hr
     have HI:=hid hI;clear hI
     by_cases he:(rn:Int)=ar
     ·have hb:((rn:Int) != ar)=false:=by simp [he]
      have HE:=hid he;clear he
      obtain ⟨vb,hvb⟩:∃ vb,valB (rx rows k)=vb:=⟨_,rfl⟩
      have HVB:=hid hvb;clear hvb
      cases vb with
      | false =>
       have HF:=hid (validR_row (ar:=ar) (rows:=rows) (i:=k) (by rw [HL.out];exact hlt) (by rintro ⟨_,h2,_⟩;rw [HVB.out] at h2;cases h2))
       have HIR:=hid hIr;clear hIr
       go_wp2_with fail
       refine (implVals ra rn rc _ _ HR.out).mono ?_
       rintro e w2 ⟨rfl,m2,rfl⟩
       rw [HVB.out]
       go_wp2_with fail
       go_ret
       exact ⟨by rw [HF.out];rfl,dr_more HD.out _⟩
      | true =>
       by_cases h0:k=0
       ·have HT2:Hid (∀ i,i<k+1→RowOK ar rows i):=hid (fun i hi=>by
         obtain rfl:i=k:=by omega
         exact ⟨by rw [HRL.out];exact HE.out,HVB.out,fun h=>by omega⟩)
        have HIR:=hid hIr;clear hIr
        have h0':¬ 0<k:=by omega
        have H0:=hid h0;clear h0
        go_wp2_with fail
        refine (implVals ra rn rc _ _ HR.out).mono ?_
        rintro e w2 ⟨rfl,m2,rfl⟩
        rw [HVB.out]
        go_wp2_with fail
        go_roundw
        case rel=>exact ⟨k+1,by go_num,by omega,HT2,hid (dr_more HD.out _)⟩
        case measure=>simp [intOf];omega
       ·obtain ⟨j,rfl⟩:∃ j,k=j+1:=⟨k - 1,by omega⟩
        obtain ⟨_,_,qa,qn,qc,hcq,hq,_⟩:=hIr.at (show j<n by omega)
        have HQ:=hid hq;clear hq
        have HIR:=hid hIr;clear hIr
        clear h0
        obtain ⟨d,hde⟩:∃ d,cmpR (rx rows j) (rx rows (j+1))=d:=⟨_,rfl⟩
        have HDE:=hid hde;clear hde
        by_cases hd0:d<0
        ·have HT2:Hid (∀ i,i<j+1+1→RowOK ar rows i):=hid (fun i hi=>by
          by_cases e:i=j+1
          ·subst e;exact ⟨by rw [HRL.out];exact HE.out,HVB.out,fun _=>by show cmpR (rx rows j) _<0;rw [HDE.out];exact hd0⟩
          ·exact HT.out i (by omega))
         go_wp2_with fail
         refine (implVals ra rn rc _ _ HR.out).mono ?_
         rintro e w2 ⟨rfl,m2,rfl⟩
         rw [HVB.out]
         go_wp2_with fail
         refine (implCmpR qa ra qn qc rn rc _ _ _ (HQ.out.drewN _) (HR.out.drewN _)).mono ?_
         rintro e w3 ⟨rfl,m3,rfl⟩
         rw [HDE.out]
         go_wp2_with fail
         go_roundw
         case rel=>exact ⟨j+1+1,by go_num,by omega,HT2,hid (by first | exact dr_more HD.out _ | (rw [dd];exact dr_more HD.out _))⟩
         case measure=>simp [intOf];omega
        ·have HF:=hid (validR_row (ar:=ar) (rows:=rows) (i:=j+1) (by rw [HL.out];exact hlt) (by rintro ⟨_,_,h2⟩;have:=h2 (by omega);simp only [Nat.add_sub_cancel] at this;rw [HDE.out] at this;exact hd0 this))
         go_wp2_with fail
         refine (implVals ra rn rc _ _ HR.out).mono ?_
         rintro e w2 ⟨rfl,m2,rfl⟩
         rw [HVB.out]
         go_wp2_with fail
         refine (implCmpR qa ra qn qc rn rc _ _ _ (HQ.out.drewN _) (HR.out.drewN _)).mono ?_
         rintro e w3 ⟨rfl,m3,rfl⟩
         rw [HDE.out]
         go_wp2_with fail
         go_ret
         exact ⟨by rw [HF.out];rfl,by first | exact dr_more HD.out _ | (rw [dd];exact dr_more HD.out _)⟩
     ·have hb:((rn:Int) != ar)=true:=by simp [he]
      have HF:=hid (validR_row (ar:=ar) (rows:=rows) (i:=k) (by rw [HL.out];exact hlt) (by rintro ⟨h2,_⟩;rw [HRL.out] at h2;exact he h2))
      have HE:=hid he;clear he
      have HIR:=hid hIr;clear hIr
      go_wp2_with fail
      go_ret
      exact ⟨by rw [HF.out];rfl,HD.out⟩
    ·have HF:=hid (validR_true (ar:=ar) (rows:=rows) hw (by rw [HL.out];exact hn) (by rw [HL.out];intro i hi;exact HT.out i (by omega)))
     go_wp2_with fail
     go_ret
     exact ⟨by rw [HF.out];rfl,HD.out⟩
  ·have HF:=hid (validR_big (ar:=ar) (rows:=rows) (by rw [HL.out];exact hn))
   go_enter Try.func60,Try.ntmps60
   go_wp2_with fail
   refine (implWithin ar 0 5 _).mono ?_
   rintro e w1 ⟨rfl,m1,rfl⟩
   rw [hd]
   go_wp2_with fail
   go_ret
   exact ⟨by rw [HF.out];rfl,_,rfl⟩
 ·have hd:decide (0≤ar∧ar≤5)=false:=by simpa using hw
  have HF:=hid (validR_ar (rows:=rows) hw)
  go_enter Try.func60,Try.ntmps60
  go_wp2_with fail
  refine (implWithin ar 0 5 _).mono ?_
  rintro e w1 ⟨rfl,m1,rfl⟩
  rw [hd]
  go_wp2_with fail
  go_ret
  exact ⟨by rw [HF.out];rfl,_,rfl⟩
section
variable {α:Type} {k:Nat} {R:Rep α} {fz:Bool} {lo hi:Nat} {w w':World} {a:Option Addr} {n c:Nat} {xs:List α}
theorem SlA.be (ok:RepOK R) (h:SlA k R fz lo hi w a n c xs) {B:Nat} (hb:Below B w w') (hh:hi≤B):SlA k R fz lo hi w' a n c xs:=h.keep ok (Keeps.of_below hb hh)
theorem SlA.al (ok:RepOK R) (h:SlA k R fz lo hi w a n c xs) (hh:hi≤w.heap.size) (o:Obj):SlA k R fz lo hi (w.alloc o) a n c xs:=h.be ok ((Below.refl _ _).alloc (Nat.le_refl _) o) hh
end
theorem IntsA.be {fz:Bool} {lo hi:Nat} {w w':World} {a:Option Addr} {n c:Nat} {xs:List Int} (h:IntsA fz lo hi w a n c xs) {B:Nat} (hb:Below B w w') (hh:hi≤B):IntsA fz lo hi w' a n c xs:=h.keep (Keeps.of_below hb hh)
theorem IntsA.al {fz:Bool} {lo hi:Nat} {w:World} {a:Option Addr} {n c:Nat} {xs:List Int} (h:IntsA fz lo hi w a n c xs) (hh:hi≤w.heap.size) (o:Obj):IntsA fz lo hi (w.alloc o) a n c xs:=h.be ((Below.refl _ _).alloc (Nat.le_refl _) o) hh
theorem Below.al {B:Nat} {a w:World} (h:Below B a w) (hb:B≤w.heap.size) (o:Obj):Below B a (w.alloc o):=h.alloc hb o
theorem leA {a b:Nat} (h:a≤b:=by first | with_reducible exact Nat.le_refl _ | omega | (simp;done) | (simp;omega) | exact Nat.le_refl _):a≤b:=h
theorem belA {B:Nat} {a w:World} (h:Below B a w:=by repeat (first | with_reducible assumption | with_reducible exact Below.refl _ _ | with_reducible refine below_drewN ?_ _ | with_reducible refine Below.al ?_ (by first | with_reducible exact Nat.le_refl _ | omega | (simp;done) | (simp;omega) | exact Nat.le_refl _) _ | with_reducible refine Below.setCell ?_ (by first | with_reducible exact Nat.le_refl _ | omega | (simp;done) | (simp;omega) | exact Nat.le_refl _) _ | assumption | exact Below.refl _ _ | refine below_drewN ?_ _ | refine Below.al ?_ (by first | with_reducible exact Nat.le_refl _ | omega | (simp;done) | (simp;omega) | exact Nat.le_refl _) _ | refine Below.setCell ?_ (by first | with_reducible exact Nat.le_refl _ | omega | (simp;done) | (simp;omega) | exact Nat.le_refl _) _)):Below B a w:=h
theorem Gives.leaves {w:World} {v:Value} {e:Ending} {w':World} (h:Gives w v e w'):Leaves w v e w':=by
 obtain ⟨rfl,m,rfl⟩:=h;exact ⟨rfl,below_drewN (Below.refl _ _) m⟩
theorem bcell {W w1:World} (hb:Below W.heap.size W w1):(∀ b o,b<W.heap.size→w1.cell? ⟨b,o,none⟩=W.cell? ⟨b,o,none⟩)∧(∀ b o,b<W.heap.size→w1.frozen? ⟨b,o,none⟩=W.frozen? ⟨b,o,none⟩) :=
 ⟨fun b o h=>hb.cell (p:=⟨b,o,none⟩) h,fun b o h=>hb.frozen (p:=⟨b,o,none⟩) h⟩
theorem Keeps.sc {lo hi:Nat} {w w':World} {b o:Nat} (h:Keeps lo hi w w') (hb:b<lo∨hi≤b) (v:Value):Keeps lo hi w (w'.setCell ⟨b,o,none⟩ v):=fun k h1 h2=>by
 rw [heap_setCell_other w' ⟨b,o,none⟩ k _ (by show k ≠ b;omega)];exact h k h1 h2
theorem Keeps.al {lo hi:Nat} {w w':World} (h:Keeps lo hi w w') (hh:hi≤w'.heap.size) (o:Obj):Keeps lo hi w (w'.alloc o):=h.trans (Keeps.of_below ((Below.refl _ _).alloc (Nat.le_refl _) o) hh)
theorem Keeps.dr {lo hi:Nat} {w w':World} (h:Keeps lo hi w w') (m:Nat):Keeps lo hi w (w'.drewN m):=h
abbrev trieV (ar:Int) (a:Option Addr) (n c:Nat):Value:=.agg #[.int .i64 ar,.slice a n c]
set_option maxHeartbeats 400000 in
theorem implAsRel (ar:Int) (a:Option Addr) (n c:Nat) (w:World) :
 Calls Try.prog 43 #[trieV ar a n c] w (Leaves w (trieV ar a n c)):=by
 go_enter Try.func43,Try.ntmps43
 go_wp2
 exact bodyPost_ret (v:=trieV ar a n c) (by simp [results,Try.results43,go_sem]) rfl ⟨rfl,(by repeat (first | with_reducible assumption | with_reducible exact Below.refl _ _ | with_reducible refine below_drewN ?_ _ | with_reducible refine Below.al ?_ (by first | with_reducible exact Nat.le_refl _ | omega | (simp;done) | (simp;omega) | exact Nat.le_refl _) _ | with_reducible refine Below.setCell ?_ (by first | with_reducible exact Nat.le_refl _ | omega | (simp;done) | (simp;omega) | exact Nat.le_refl _) _ | assumption | exact Below.refl _ _ | refine below_drewN ?_ _ | refine Below.al ?_ (by first | with_reducible exact Nat.le_refl _ | omega | (simp;done) | (simp;omega) | exact Nat.le_refl _) _ | refine Below.setCell ?_ (by first | with_reducible exact Nat.le_refl _ | omega | (simp;done) | (simp;omega) | exact Nat.le_refl _) _))⟩
set_option maxHeartbeats 400000 in
theorem specAsRel (ar:Int) (a:Option Addr) (n c:Nat) (w:World) :
 Calls Try.prog 32 #[trieV ar a n c] w (Leaves w (trieV ar a n c)):=by
 go_enter Try.func32,Try.ntmps32
 go_wp2
 exact bodyPost_ret (v:=trieV ar a n c) (by simp [results,Try.results32,go_sem]) rfl ⟨rfl,(by repeat (first | with_reducible assumption | with_reducible exact Below.refl _ _ | with_reducible refine below_drewN ?_ _ | with_reducible refine Below.al ?_ (by first | with_reducible exact Nat.le_refl _ | omega | (simp;done) | (simp;omega) | exact Nat.le_refl _) _ | with_reducible refine Below.setCell ?_ (by first | with_reducible exact Nat.le_refl _ | omega | (simp;done) | (simp;omega) | exact Nat.le_refl _) _ | assumption | exact Below.refl _ _ | refine below_drewN ?_ _ | refine Below.al ?_ (by first | with_reducible exact Nat.le_refl _ | omega | (simp;done) | (simp;omega) | exact Nat.le_refl _) _ | refine Below.setCell ?_ (by first | with_reducible exact Nat.le_refl _ | omega | (simp;done) | (simp;omega) | exact Nat.le_refl _) _))⟩
set_option maxHeartbeats 400000 in
theorem implValidRel {fz:Bool} {lo hi:Nat} (ar:Int) (a:Option Addr) (n c:Nat) (rows:List (List Int)) (w:World) (hI:RowsA fz lo hi w a n c rows) (hh:hi≤w.heap.size) (har:I64 ar) :
 Calls Try.prog 52 #[trieV ar a n c] w (Leaves w (.bool (validR ar rows))):=by
 have HAR:=hid har;clear har
 go_enter Try.func52,Try.ntmps52
 go_wp2_with fail
 refine (implRowsValid ar a n c rows _ (hI.al intsOK hh _) HAR.out).mono ?_
 rintro e w1 ⟨rfl,m1,rfl⟩
 go_wp2_with fail
 go_ret
 exact ⟨rfl,(by repeat (first | with_reducible assumption | with_reducible exact Below.refl _ _ | with_reducible refine below_drewN ?_ _ | with_reducible refine Below.al ?_ (by first | with_reducible exact Nat.le_refl _ | omega | (simp;done) | (simp;omega) | exact Nat.le_refl _) _ | with_reducible refine Below.setCell ?_ (by first | with_reducible exact Nat.le_refl _ | omega | (simp;done) | (simp;omega) | exact Nat.le_refl _) _ | assumption | exact Below.refl _ _ | refine below_drewN ?_ _ | refine Below.al ?_ (by first | with_reducible exact Nat.le_refl _ | omega | (simp;done) | (simp;omega) | exact Nat.le_refl _) _ | refine Below.setCell ?_ (by first | with_reducible exact Nat.le_refl _ | omega | (simp;done) | (simp;omega) | exact Nat.le_refl _) _))⟩
set_option maxHeartbeats 400000 in
theorem implValidTrie {fz:Bool} {lo hi:Nat} (ar:Int) (a:Option Addr) (n c:Nat) (rows:List (List Int)) (w:World) (hI:RowsA fz lo hi w a n c rows) (hh:hi≤w.heap.size) (har:I64 ar) :
 Calls Try.prog 34 #[trieV ar a n c] w (Leaves w (.bool (validR ar rows))):=by
 have HAR:=hid har;clear har
 go_enter Try.func34,Try.ntmps34
 go_wp2_with fail
 refine (implAsRel ar a n c _).mono ?_
 rintro e w1 ⟨rfl,hb1⟩
 have hb2:Below w.heap.size w w1:=Below.trans (by repeat (first | with_reducible assumption | with_reducible exact Below.refl _ _ | with_reducible refine below_drewN ?_ _ | with_reducible refine Below.al ?_ (by first | with_reducible exact Nat.le_refl _ | omega | (simp;done) | (simp;omega) | exact Nat.le_refl _) _ | with_reducible refine Below.setCell ?_ (by first | with_reducible exact Nat.le_refl _ | omega | (simp;done) | (simp;omega) | exact Nat.le_refl _) _ | assumption | exact Below.refl _ _ | refine below_drewN ?_ _ | refine Below.al ?_ (by first | with_reducible exact Nat.le_refl _ | omega | (simp;done) | (simp;omega) | exact Nat.le_refl _) _ | refine Below.setCell ?_ (by first | with_reducible exact Nat.le_refl _ | omega | (simp;done) | (simp;omega) | exact Nat.le_refl _) _)) (hb1.mono (by first | with_reducible exact Nat.le_refl _ | omega | (simp;done) | (simp;omega) | exact Nat.le_refl _))
 have hz:=hb2.size
 go_wp2_with fail
 refine (implValidRel ar a n c rows _ (hI.be intsOK hb2 hh) (by omega) HAR.out).mono ?_
 rintro e w2 ⟨rfl,hb3⟩
 go_wp2_with fail
 go_ret
 exact ⟨rfl,Below.calm hb2 hb3⟩
end Go.Proofs.Ytfobmfngbfbfdaa
namespace Go.Proofs.Ytfobmfngbfbfdaa
set_option linter.unusedSimpArgs false
set_option linter.unusedVariables false
open Go.RowKit
theorem calloc {w:World} {b o:Nat} (O:Obj) (h:b<w.heap.size):(w.alloc O).cell? ⟨b,o,none⟩=w.cell? ⟨b,o,none⟩:=World.cell?_of_block (w:=w) (Below.heap_alloc _ _ _ h)
theorem falloc {w:World} {b o:Nat} (O:Obj) (h:b<w.heap.size):(w.alloc O).frozen? ⟨b,o,none⟩=w.frozen? ⟨b,o,none⟩:=World.frozen?_of_block (w:=w) (Below.heap_alloc _ _ _ h)
theorem cdrewN (w:World) (k:Nat) (p:Addr):(w.drewN k).cell? p=w.cell? p:=rfl
theorem cdrew1 (w:World) (p:Addr):w.drew.cell? p=w.cell? p:=rfl
theorem fdrewN (w:World) (k:Nat) (p:Addr):(w.drewN k).frozen? p=w.frozen? p:=rfl
theorem fdrew1 (w:World) (p:Addr):w.drew.frozen? p=w.frozen? p:=rfl
theorem cset_far {w:World} {b o b' o':Nat} {v:Value} (h:b ≠ b'):(w.setCell ⟨b,o,none⟩ v).cell? ⟨b',o',none⟩=w.cell? ⟨b',o',none⟩:=by
 apply World.cell?_setCell_other
 intro e;cases e;exact h rfl
theorem sz_alloc (w:World) (O:Obj):(w.alloc O).heap.size=w.heap.size+1:=by simp
theorem sz_drewN (w:World) (k:Nat):(w.drewN k).heap.size=w.heap.size:=rfl
theorem sz_drew1 (w:World):w.drew.heap.size=w.heap.size:=rfl
theorem sz_set (w:World) (a:Addr) (v:Value):(w.setCell a v).heap.size=w.heap.size:=by simp [World.setCell]
theorem fset_any (w:World) (a b:Addr) (v:Value):(w.setCell a v).frozen? b=w.frozen? b:=by simp
def Later (B:Nat) (w0:World):Type:={w':World // Below B w0 w'}
def Later.w {B:Nat} {w0:World} (x:Later B w0):World:=x.1
theorem Later.be {B:Nat} {w0:World} (x:Later B w0):Below B w0 x.w:=x.2
instance (B:Nat) (w0:World):Nonempty (Later B w0):=⟨⟨w0,Below.refl B w0⟩⟩
theorem below_drew1 {B:Nat} {a w:World} (h:Below B a w):Below B a w.drew:=⟨h.os,h.tape,h.output,h.size,h.block⟩
theorem wp_region_later {B:Nat} {w0:World} {id:Nat} {Q:Exit→Act→World→Prop} {a:Act} {w:World} {l:List Oper} (hm:Try.prog.follows .mixedOrders=true) (hB:Region.lexB .any l.toArray=true) (hw:Below B w0 w)
 (h:wpQuiet Try.prog l.toArray (fun w'=>∃ n:Later B w0,w'=n.w) (fun a'=>∀ w',(∃ n:Later B w0,w'=n.w)→Q .normal a' w') l a):(Code.region id l.toArray true).wp Try.prog Q a w:=wp_region_quiet (C:=fun w'=>∃ n:Later B w0,w'=n.w) hm hB ⟨⟨w.drew,below_drew1 hw⟩,rfl⟩ (by simpa using h)
theorem later_of {B:Nat} {w0:World} {f:FuncId} {args:Array Value} {v:Value} (n:Later B w0) (hB:B≤w0.heap.size) (h:Calls Try.prog f args n.w (Leaves n.w v)) :
 Calls Try.prog f args n.w fun e w''=>e=.returned v∧∃ m:Later B w0,w''=m.w:=h.mono fun _ w'' ⟨he,hb⟩=>⟨he,⟨w'',n.be.trans (hb.mono (Nat.le_trans hB n.be.size))⟩,rfl⟩
theorem later_gives {B:Nat} {w0:World} {f:FuncId} {args:Array Value} {v:Value} (n:Later B w0) (hB:B≤w0.heap.size) (h:Calls Try.prog f args n.w (Gives n.w v)) :
 Calls Try.prog f args n.w fun e w''=>e=.returned v∧∃ m:Later B w0,w''=m.w:=later_of n hB (h.mono fun _ _ h=>h.leaves)
theorem Later.cell {B:Nat} {w0:World} {b o:Nat} {v:Value} (h:w0.cell? ⟨b,o,none⟩=some v) (hb:b<B) (x:Later B w0):x.w.cell? ⟨b,o,none⟩=some v:=by
 rw [x.be.cell (p:=⟨b,o,none⟩) hb];exact h
theorem Later.size {B:Nat} {w0:World} (x:Later B w0):w0.heap.size≤x.w.heap.size:=x.be.size
end Go.Proofs.Ytfobmfngbfbfdaa
namespace Go.Proofs.Ytfobmfngbfbfdaa
set_option linter.unusedSimpArgs false
set_option linter.unusedVariables false
open Go.RowKit
open Classical in
noncomputable def eqT (ar ar':Int) (rows rows':List (List Int)):Bool:=decide (ar=ar'∧rows=rows')
end Go.Proofs.Ytfobmfngbfbfdaa
namespace Go.Proofs.Ytfobmfngbfbfdaa
set_option linter.unusedSimpArgs false
set_option linter.unusedVariables false
open Go.RowKit
theorem cmpR_s7 (xs:List Int):cmpR xs xs=0:=by
 induction xs with
 | nil=>rfl
 | cons x xs ih=>simp [cmpR,ih]
theorem cmpR_z7 {xs ys:List Int} (h:cmpR xs ys=0):xs=ys:=by
 induction xs generalizing ys with
 | nil=>cases ys with
  | nil=>rfl
  | cons y ys=>simp [cmpR] at h
 | cons x xs ih=>cases ys with
  | nil=>simp [cmpR] at h
  | cons y ys =>
   simp only [cmpR] at h
   split at h
   ·next e=>rw [e,ih h]
   · next e =>unfold cmpI at h;split at h
              ·omega
              ·split at h <;> omega
theorem cmpR_eqL (xs ys:List Int):(cmpR xs ys == 0)=eqL xs ys:=by
 rw [Bool.eq_iff_iff];simp only [beq_iff_eq,eqL,decide_eq_true_eq]
 exact ⟨cmpR_z7,fun h=>by rw [h];exact cmpR_s7 ys⟩
end Go.Proofs.Ytfobmfngbfbfdaa
