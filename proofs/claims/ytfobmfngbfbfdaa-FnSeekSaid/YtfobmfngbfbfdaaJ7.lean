/- Lemmas for the proof of FnIteration, part 12 of 22: no condition of their own. -/
import Derived.Test.YtfobmfngbfbfdaaJ1
import Derived.StillTail
import Derived.Test.YtfobmfngbfbfdaaJ6
import Derived.Test.YtfobmfngbfbfdaaJ3
namespace Go.Proofs.Ytfobmfngbfbfdaa
set_option linter.unusedSimpArgs false
set_option linter.unusedVariables false
open Go.RowKit
section
variable {P:Program} {C:World→Prop}
def qtB (l:List Oper) (n:Nat):Bool :=
 Region.lexB .any (l.take n).toArray && decide (n<l.length) && Region.sinkB .any l.toArray n && Region.chainB .any l.toArray n &&
 (List.range n).all (fun i=>match l[i]? with
  | some o=>(match o.guard with | some g=>decide (g.1<n) | none=>true) && o.after.toList.all (fun e=>!Region.binds .any e || decide (e.on<i))
  | none=>true) &&
 Region.seqB .any l.toArray (l.length - n) n ((List.range n).foldl (fun s i=>s.setIfInBounds i true) (Array.replicate l.length false))
theorem wpAny_more {md:Region.Mode} {ops:Array Oper} {Q:Exit→Act→World→Prop}:∀ (f:Nat) (listed:Array Bool) (a:Act) (w:World),wpAny P md ops Q f listed a w→wpAny P md ops Q (f+1) listed a w
 | 0,_,_,_,h=>⟨fun _=>h.2,fun i hi=>by rw [h.1] at hi;cases hi⟩
 | f+1,_,_,_,h=>⟨h.1,fun i hi=>wpOp_mono (fun a' w' h'=>wpAny_more f _ a' w' h') (h.2 i hi)⟩
theorem wpAny_plus {md:Region.Mode} {ops:Array Oper} {Q:Exit→Act→World→Prop} {g:Nat} {listed:Array Bool} {a:Act} {w:World} (h:wpAny P md ops Q g listed a w):∀ f:Nat,wpAny P md ops Q (f+g) listed a w
 | 0=>by rw [Nat.zero_add];exact h
 | f+1=>by rw [show f+1+g=(f+g)+1 by omega];exact wpAny_more _ _ _ _ (wpAny_plus h f)
theorem foldl_set (n:Nat):∀ (s:Array Bool),((List.range n).foldl (fun s i=>s.setIfInBounds i true) s).size=s.size∧∀ j b,((List.range n).foldl (fun s i=>s.setIfInBounds i true) s).getD j b=if j<n∧j<s.size then true else s.getD j b:=by
 induction n with
 | zero=>intro s;exact ⟨rfl,fun j b=>by simp⟩
 | succ n ih =>
  intro s
  rw [List.range_succ,List.foldl_append]
  obtain ⟨h1,h2⟩:=ih s
  refine ⟨by simp [h1],fun j b=>?_⟩
  simp only [List.foldl_cons,List.foldl_nil]
  by_cases e:n=j
  ·subst e
   by_cases hs:n<s.size
   ·simp [h1,hs]
   ·simp only [Array.getD_eq_getD_getElem?] at h2 ⊢
    rw [Array.getElem?_eq_none (by simp [h1];omega)]
    have:=h2 n b
    rw [Array.getElem?_eq_none (by simp [h1];omega)] at this
    rw [if_neg (by omega)] at this ⊢
    exact this
  ·rw [getD_set_ne b e,h2 j b]
   by_cases hh:j<n∧j<s.size
   ·rw [if_pos hh,if_pos ⟨by omega,hh.2⟩]
   ·rw [if_neg hh,if_neg (by omega)]
theorem wanted_take {l:List Oper} {n:Nat} {o:Oper} {a:Act} (h:∀ g,o.guard=some g→g.1<n):Region.wanted o (yielded (l.take n).toArray a.tmps)=Region.wanted o (yielded l.toArray a.tmps):=by
 unfold Region.wanted
 cases hg:o.guard with
 | none=>rfl
 | some g =>
  have:=h g hg
  simp only [yielded,List.getElem?_toArray,List.getElem?_take_of_lt this]
theorem qt_any {l:List Oper} {n:Nat} {Qa:Act→Prop} {Q':Exit→Act→World→Prop} (hn:n<l.length) (hs:Region.sinkB .any l.toArray n=true) (hc:Region.chainB .any l.toArray n=true)
 (hb:∀ i o,i<n→l[i]? = some o→(∀ g,o.guard=some g→g.1<n)∧∀ e∈o.after,Region.binds .any e=true→e.on<i)
 (hq:Region.seqB .any l.toArray (l.length - n) n ((List.range n).foldl (fun s i=>s.setIfInBounds i true) (Array.replicate l.length false))=true)
 (hL:∀ a w,C w→Qa a→wpList P l.toArray Q' (l.drop n) a w) :
 ∀ (f:Nat) (listed listed':Array Bool) (a:Act) (w:World),C w→HeadInv .any l.toArray n listed→listed'.size=n→(∀ i b,i<n→listed'.getD i b=listed.getD i b) →
  wpAnyQ P .any (l.take n).toArray C Qa f listed' a→wpAny P .any l.toArray Q' (f+(l.length - n)) listed a w:=by
 have htk:∀ i,i<n→(l.take n).toArray[i]? = l.toArray[i]?:=fun i hi=>by simp [List.getElem?_take_of_lt hi]
 have szl:l.toArray.size=l.length:=by simp
 have hready:∀ (listed listed':Array Bool) i,HeadInv .any l.toArray n listed→listed'.size=n→(∀ i b,i<n→listed'.getD i b=listed.getD i b)→i<n→(i∈Region.ready .any l.toArray listed↔i∈Region.ready .any (l.take n).toArray listed'):=by
  intro listed listed' i inv hsz hll hi
  rw [mem_ready,mem_ready,hll i true hi,htk i hi]
  refine and_congr_right fun _=>⟨fun ⟨o,ho,h⟩=>⟨o,ho,fun e he hbd=>?_⟩,fun ⟨o,ho,h⟩=>⟨o,ho,fun e he hbd=>?_⟩⟩
  ·have:=(hb i o hi (by simpa using ho)).2 e he hbd
   rw [hll e.on false (by omega)];exact h e he hbd
  ·have:=(hb i o hi (by simpa using ho)).2 e he hbd
   rw [← hll e.on false (by omega)];exact h e he hbd
 have hdone:∀ (listed listed':Array Bool) (a:Act) (w:World),C w→HeadInv .any l.toArray n listed→listed'.size=n→(∀ i b,i<n→listed'.getD i b=listed.getD i b)→Region.ready .any (l.take n).toArray listed'=[]→Qa a→wpAny P .any l.toArray Q' (l.length - n) listed a w:=by
  intro listed listed' a w hw inv hsz hll hr hQ
  have hall:∀ k i,i≤k→i<n→listed.getD i false=true:=by
   intro k
   induction k with
   | zero =>
    intro i hik hi
    obtain rfl:i=0:=by omega
    cases hx:listed.getD 0 false with
    | true=>rfl
    | false =>
     have h1:(0:Nat)∈Region.ready .any l.toArray listed:=by
      rw [mem_ready]
      refine ⟨getD_in (by rw [inv.size,szl];omega) hx,l[0],by simp,fun e he hbd=>?_⟩
      have:=(hb 0 _ hi (by simp)).2 e he hbd
      omega
     rw [hready listed listed' 0 inv hsz hll hi,hr] at h1
     cases h1
   | succ k ih =>
    intro i hik hi
    by_cases hik':i≤k
    ·exact ih i hik' hi
    ·cases hx:listed.getD i false with
     | true=>rfl
     | false =>
      have hil:i<l.length:=by omega
      have h1:i∈Region.ready .any l.toArray listed:=by
       rw [mem_ready]
       refine ⟨getD_in (by rw [inv.size,szl];omega) hx,l[i],by simp [hil],fun e he hbd=>?_⟩
       have:=(hb i _ hi (by simp [hil])).2 e he hbd
       exact ih e.on (by omega) (by omega)
      rw [hready listed listed' i inv hsz hll hi,hr] at h1
      cases h1
  have hcan:listed=(List.range n).foldl (fun s i=>s.setIfInBounds i true) (Array.replicate l.length false):=by
   obtain ⟨h1,h2⟩:=foldl_set n (Array.replicate l.length false)
   apply Array.ext
   ·rw [h1,inv.size];simp
   ·intro i hi1 hi2
    have e1:listed[i]=listed.getD i false:=by simp [hi1]
    have e2:=h2 i false
    have e3:((List.range n).foldl (fun s i=>s.setIfInBounds i true) (Array.replicate l.length false))[i]=((List.range n).foldl (fun s i=>s.setIfInBounds i true) (Array.replicate l.length false)).getD i false:=by simp [hi2]
    rw [e1,e3,e2]
    have hil:i<l.length:=by rw [inv.size,szl] at hi1;exact hi1
    by_cases hin:i<n
    ·rw [if_pos ⟨hin,by simpa using hil⟩];exact hall i i (Nat.le_refl _) hin
    ·rw [if_neg (by omega),getD_replicate_false]
     exact getD_both (inv.tail i (by omega) (by rw [szl];exact hil))
  have h3:=wpAny_of_seq (P:=P) (md:=.any) (Q':=Q') (l.drop n) n listed a w (fun j=>by simp [List.getElem?_drop]) (by rw [List.length_drop,hcan];exact hq) (hL a w hw hQ)
  rwa [List.length_drop] at h3
 intro f
 induction f with
 | zero =>
  intro listed listed' a w hw inv hsz hll h
  rw [Nat.zero_add]
  exact hdone listed listed' a w hw inv hsz hll h.1 h.2
 | succ f ih =>
  intro listed listed' a w hw inv hsz hll h
  by_cases hr:Region.ready .any (l.take n).toArray listed'=[]
  ·exact wpAny_plus (hdone listed listed' a w hw inv hsz hll hr (h.1 hr)) _
  ·obtain ⟨i0,hi0⟩:=List.exists_mem_of_ne_nil _ hr
   have hi0n:i0<n:=by
    obtain ⟨_,o,ho,_⟩:=mem_ready.1 hi0
    have:=(Array.getElem?_eq_some_iff.1 ho).1
    simp at this;omega
   have hi0u:listed.getD i0 true=false:=by rw [← hll i0 true hi0n];exact (mem_ready.1 hi0).1
   have hlt:∀ i∈Region.ready .any l.toArray listed,i<n:=fun i hi=>by
    rcases Nat.lt_or_ge i n with h' | h'
    ·exact h'
    ·exact absurd hi (tail_waits hs hc (by rw [szl];exact hn) inv _ i0 rfl hi0n hi0u i h')
   rw [show f+1+(l.length - n)=(f+(l.length - n))+1 by omega]
   refine ⟨fun he=>?_,fun i hi=>?_⟩
   ·have:=(hready listed listed' i0 inv hsz hll hi0n).2 hi0
    rw [he] at this;cases this
   ·have hin:=hlt i hi
    have h1:=h.2 i ((hready listed listed' i inv hsz hll hin).1 hi)
    have hil:i<l.length:=by omega
    have hg:=(hb i l[i] hin (List.getElem?_eq_getElem hil)).1
    unfold qOp at h1
    unfold wpOp
    rw [htk i hin] at h1
    have e:l.toArray[i]? = some l[i]:=by simp [hil]
    rw [e] at h1 ⊢
    simp only at h1 ⊢
    rw [wanted_take hg] at h1
    have hnext:∀ a' w',C w'→wpAnyQ P .any (l.take n).toArray C Qa f (listed'.setIfInBounds i true) a'→wpAny P .any l.toArray Q' (f+(l.length - n)) (listed.setIfInBounds i true) a' w':=by
     intro a' w' hw' h'
     refine ih _ _ a' w' hw' (inv.set hi hin) (by simp [hsz]) (fun j b hj=>?_) h'
     by_cases eij:i=j
     ·subst eij
      simp [hsz,hin,inv.size,hil]
     ·rw [getD_set_ne b eij,getD_set_ne b eij,hll j b hj]
    by_cases hwt:Region.wanted l[i] (yielded l.toArray a.tmps)=true
    ·rw [if_pos hwt] at h1 ⊢
     exact .inl (Oper.wp_of_quiet hw hnext h1)
    ·rw [if_neg hwt] at h1 ⊢
     exact hnext _ _ hw h1
theorem wp_region_qt {id:Nat} {Q:Exit→Act→World→Prop} {a:Act} {w:World} {l:List Oper} (n:Nat) (hm:P.follows .mixedOrders=true) (hB:qtB l n=true) (hC:C { w with drawn:=w.drawn+1 })
 (h:wpQuiet P (l.take n).toArray C (fun a'=>∀ w',C w'→wpList P l.toArray Q (l.drop n) a' w') (l.take n) a):(Code.region id l.toArray true).wp P Q a w:=by
 unfold qtB at hB
 simp only [Bool.and_eq_true,decide_eq_true_eq] at hB
 obtain ⟨⟨⟨⟨⟨hlex,hn⟩,hs⟩,hc⟩,hb⟩,hq⟩:=hB
 simp only [Region.lexB,Bool.and_eq_true] at hlex
 have hb':∀ i o,i<n→l[i]? = some o→(∀ g,o.guard=some g→g.1<n)∧∀ e∈o.after,Region.binds .any e=true→e.on<i:=by
  intro i o hi ho
  have:=List.all_eq_true.1 hb i (List.mem_range.2 hi)
  rw [ho] at this
  simp only [Bool.and_eq_true] at this
  refine ⟨fun g hg=>?_,fun e he hbd=>?_⟩
  ·have h1:=this.1
   rw [hg] at h1
   simpa using h1
  ·have h1:=List.all_eq_true.1 this.2 e (by simpa using he)
   rw [hbd] at h1
   simpa using h1
 have hlen:(l.take n).length=n:=by simp;omega
 have H:=wpAnyQ_lex (P:=P) (C:=C) (md:=.any) hlex.1 (l.take n) 0 (Array.replicate (l.take n).toArray.size false) a (by simp) (by simpa using hlex.2) h
 refine wp_region_any hm ?_
 have inv0:HeadInv .any l.toArray n (Array.replicate l.toArray.size false) :=
  ⟨by simp,fun j oj _ hl=>(by rw [getD_replicate_false] at hl;cases hl),fun t _ ht=>getD_in (by simpa using ht) (getD_replicate_false _ _)⟩
 have:=qt_any (P:=P) (C:=C) (Q':=Q) (Qa:=fun a'=>∀ w',C w'→wpList P l.toArray Q (l.drop n) a' w') hn hs hc hb' hq (fun a w hw h=>h w hw) (l.take n).length (Array.replicate l.toArray.size false) (Array.replicate (l.take n).toArray.size false) a _ hC inv0 (by simp;omega)
  (fun i b hi=>by
   have h1:i<l.length:=by omega
   simp [hlen,hi,h1]) H
 rw [hlen,show n+(l.length - n)=l.toArray.size by simp;omega] at this
 exact this
end
theorem wp_region_laterT {B:Nat} {w0:World} {id:Nat} {Q:Exit→Act→World→Prop} {a:Act} {w:World} {l:List Oper} (n:Nat) (hm:Try.prog.follows .mixedOrders=true) (hB:qtB l n=true) (hw:Below B w0 w)
 (h:wpQuiet Try.prog (l.take n).toArray (fun w'=>∃ n:Later B w0,w'=n.w) (fun a'=>∀ w',(∃ n:Later B w0,w'=n.w)→wpList Try.prog l.toArray Q (l.drop n) a' w') (l.take n) a):(Code.region id l.toArray true).wp Try.prog Q a w:=wp_region_qt (C:=fun w'=>∃ n:Later B w0,w'=n.w) n hm hB ⟨⟨w.drew,below_drew1 hw⟩,rfl⟩ h
end Go.Proofs.Ytfobmfngbfbfdaa
namespace Go.Proofs.Ytfobmfngbfbfdaa
set_option linter.unusedSimpArgs false
set_option linter.unusedVariables false
open Go.RowKit
theorem absC {P:Program} {f:FuncId} {args:Array Value} {w0:World} {R:Ending→World→Prop} (F:World→Prop) (h:F w0) (k:∀ W,F W→Calls P f args W R):Calls P f args w0 R:=k _ h
theorem absR {P:Program} {c:Code} {Q:Exit→Act→World→Prop} {a:Act} {w0:World} (F:World→Prop) (h:F w0) (k:∀ W,F W→c.wp P Q a W):c.wp P Q a w0:=k _ h
theorem cset_off {w:World} {b o o':Nat} {v:Value} (h:o ≠ o'):(w.setCell ⟨b,o,none⟩ v).cell? ⟨b,o',none⟩=w.cell? ⟨b,o',none⟩:=World.cell?_setCell_other _ _ _ _ (by intro e;cases e;exact h rfl)
theorem absL {P:Program} {ops:Array Oper} {Q:Exit→Act→World→Prop} {l:List Oper} {a:Act} {w0:World} (F:World→Prop) (h:F w0) (k:∀ W,F W→wpList P ops Q l a W):wpList P ops Q l a w0:=k _ h
def Halt' (p:Prop):Prop:=p
theorem halt' {p:Prop} (h:Halt' p):p:=h
end Go.Proofs.Ytfobmfngbfbfdaa
namespace Go.Proofs.Ytfobmfngbfbfdaa
set_option linter.unusedSimpArgs false
set_option linter.unusedVariables false
open Go.RowKit
theorem intsTake {fz:Bool} {lo hi:Nat} {w:World} {a:Option Addr} {n c:Nat} {xs:List Int} (h:IntsA fz lo hi w a n c xs) {j:Nat} (hj:j≤n):IntsA fz lo hi w a j c (xs.take j):=by
 obtain ⟨h1,h2,h3,h4,h5,h6⟩:=h
 refine ⟨by simp;omega,by omega,h3,fun x hx=>h4 x (List.mem_of_mem_take hx),fun hn=>?_,h6⟩
 obtain ⟨b,off,ha,hl,hb,hc⟩:=h5 (by omega)
 refine ⟨b,off,ha,hl,hb,fun i hi=>?_⟩
 have e:ix (xs.take j) i=ix xs i:=by simp [ix,List.getElem?_take_of_lt hi]
 rw [e];exact hc i (by omega)
section
variable {lo hi:Nat} {w:World} {ar:Int} {a:Option Addr} {n c:Nat} {rows:List (List Int)} {la:Option Addr} {ln lc:Nat} {lw:List Int} {ga:Option Addr} {gn gc:Nat} {gh:List Int} {pa:Option Addr} {pn pc:Nat} {ps:List Int}
theorem IterS.lens (h:IterS lo hi w ar a n c rows la ln lc lw ga gn gc gh pa pn pc ps):rows.length=n∧lw.length=ln∧gh.length=gn∧ps.length=pn:=⟨h.it.1.2.len,h.it.2.1.len,h.it.2.2.1.len,h.it.2.2.2.len⟩
theorem IterS.caps (h:IterS lo hi w ar a n c rows la ln lc lw ga gn gc gh pa pn pc ps):(ln≤lc∧lc≤maxLen)∧(gn≤gc∧gc≤maxLen)∧(pn≤pc∧pc≤maxLen):=⟨⟨h.it.2.1.2.1,h.it.2.1.2.2.1⟩,⟨h.it.2.2.1.2.1,h.it.2.2.1.2.2.1⟩,⟨h.it.2.2.2.2.1,h.it.2.2.2.2.2.1⟩⟩
theorem IterS.cut (h:IterS lo hi w ar a n c rows la ln lc lw ga gn gc gh pa pn pc ps) {j:Nat} (h1:j≤ln) (h2:j≤gn) (h3:j≤pn):IterS lo hi w ar a n c rows la j lc (lw.take j) ga j gc (gh.take j) pa j pc (ps.take j):=by
 obtain ⟨h64,s0,t0,s1,t1,s2,t2,s3,t3,p0,p1,p2,p3,hA⟩:=h
 exact ⟨h64,s0,t0,s1,t1,s2,t2,s3,t3,p0,intsTake p1 h1,intsTake p2 h2,intsTake p3 h3,hA⟩
end
noncomputable def clOK (ar:Int) (rows:List (List Int)) (lw gh ps:List Int):Bool:=validIt ar rows lw gh ps && decide (0<ps.length)
def clT (ok:Bool) (m:Nat) (xs:List Int):List Int:=if ok=true then xs.take (m - 1) else xs
theorem clOK_inv {ar:Int} {rows:List (List Int)} {lw gh ps:List Int} (h:validIt ar rows lw gh ps=false):clOK ar rows lw gh ps=false:=by simp [clOK,h]
theorem clOK_nil {ar:Int} {rows:List (List Int)} {lw gh ps:List Int} (h:ps.length=0):clOK ar rows lw gh ps=false:=by simp [clOK,h]
theorem clOK_yes {ar:Int} {rows:List (List Int)} {lw gh ps:List Int} (h:validIt ar rows lw gh ps=true) (h0:0<ps.length):clOK ar rows lw gh ps=true:=by simp [clOK,h,h0]
set_option maxRecDepth 100000 in
set_option maxHeartbeats 12800000 in
theorem specClose {fz:Bool} {lo hi:Nat} (ar:Int) (a:Option Addr) (n c:Nat) (rows:List (List Int)) (la:Option Addr) (ln lc:Nat) (lw:List Int) (ga:Option Addr) (gn gc:Nat) (gh:List Int) (pa:Option Addr) (pn pc:Nat) (ps:List Int) (w:World) (hI:IterA fz lo hi w ar a n c rows la ln lc lw ga gn gc gh pa pn pc ps) (hh:hi≤w.heap.size) (hs:szIter rows lw gh ps≤1048576) :
 Calls Try.prog 58 #[iterV ar a n c la ln lc ga gn gc pa pn pc] w (GvItB w ar rows (clT (clOK ar rows lw gh ps) ps.length lw) (clT (clOK ar rows lw gh ps) ps.length gh) (clT (clOK ar rows lw gh ps) ps.length ps) (clOK ar rows lw gh ps)):=by
 have HLN:=hid (And.intro hI.1.2.len (And.intro hI.2.1.len (And.intro hI.2.2.1.len hI.2.2.2.len)))
 have HI:=hid hI;have HSZ:=hid hs;clear hI hs
 go_enter Try.func58,Try.ntmps58
 go_wp2_with fail
 refine absC (fun W=>(W.cell? ⟨w.heap.size,0,none⟩=some (.int .i64 ar)∧W.cell? ⟨w.heap.size,1,none⟩=some (.slice a n c)∧W.cell? ⟨w.heap.size,2,none⟩=some (.slice la ln lc)∧W.cell? ⟨w.heap.size,3,none⟩=some (.slice ga gn gc)∧W.cell? ⟨w.heap.size,4,none⟩=some (.slice pa pn pc)∧W.cell? ⟨w.heap.size+1,0,none⟩=some (.int .i64 0)∧W.frozen? ⟨w.heap.size+1,0,none⟩=false∧W.cell? ⟨w.heap.size+1,1,none⟩=some (.slice none 0 0)∧W.frozen? ⟨w.heap.size+1,1,none⟩=false∧W.cell? ⟨w.heap.size+1,2,none⟩=some (.slice none 0 0)∧W.frozen? ⟨w.heap.size+1,2,none⟩=false∧W.cell? ⟨w.heap.size+1,3,none⟩=some (.slice none 0 0)∧W.frozen? ⟨w.heap.size+1,3,none⟩=false∧W.cell? ⟨w.heap.size+1,4,none⟩=some (.slice none 0 0)∧W.frozen? ⟨w.heap.size+1,4,none⟩=false∧w.heap.size<W.heap.size∧w.heap.size+1<W.heap.size∧w.heap.size+2≤W.heap.size∧hi≤W.heap.size)∧Hid (IterA fz lo hi W ar a n c rows la ln lc lw ga gn gc gh pa pn pc ps)∧Hid (Below w.heap.size w W)) ⟨by (refine ⟨?_,?_,?_,?_,?_,?_,?_,?_,?_,?_,?_,?_,?_,?_,?_,?_,?_,?_,?_⟩) <;> (first | with_reducible assumption | ((try simp only [sz_alloc,sz_drewN,sz_drew1,sz_set]);omega) | (simp (disch:=(first | omega | (simp only [sz_alloc,sz_drewN,sz_drew1,sz_set];omega) | (simp (disch:=(first | omega | (simp only [sz_alloc,sz_drewN,sz_drew1,sz_set];omega))) only [calloc,cdrewN,cdrew1,cset_far,cset_off, *,Option.isSome_some];done))) only [calloc,falloc,cdrewN,cdrew1,fdrewN,fdrew1,cset_far,cset_off,fset_any,World.cell?_setCell_same'];first | done | with_reducible assumption) | (go_simp;done) | (simp;done)),hid (kpIter HI.out (by (repeat (first | (with_reducible refine Keeps.sc ?_ (by first | (left;omega) | (right;omega)) _) | (with_reducible refine Keeps.al ?_ (by first | ((try simp only [sz_alloc,sz_drewN,sz_drew1,sz_set]);omega) | (simp;done) | (simp;omega)) _) | (with_reducible refine Keeps.dr ?_ _)));with_reducible exact Keeps.refl _ _ _)),hid (by (repeat (first | (with_reducible refine Below.setCell ?_ (by first | ((try simp only [sz_alloc,sz_drewN,sz_drew1,sz_set]);omega) | (simp;done) | (simp;omega)) _) | (with_reducible refine Below.al ?_ (by first | ((try simp only [sz_alloc,sz_drewN,sz_drew1,sz_set]);omega) | (simp;done) | (simp;omega)) _) | (with_reducible refine below_drewN ?_ _) | (with_reducible refine below_drew1 ?_)));with_reducible exact Below.refl _ _)⟩ ?_
 rintro v1 ⟨⟨c0,c1,c2,c3,c4,c5,fc5,c6,fc6,c7,fc7,c8,fc8,c9,fc9,s0,s1,s2,s3⟩,DA,HBv1⟩
 have hm9:w.heap.size+2≤v1.heap.size:=by omega
 refine (specCopyIt ar a n c rows la ln lc lw ga gn gc gh pa pn pc ps _ DA.out (by omega) HSZ.out).mono ?_
 rintro e v2 ⟨ra,rn,rc,la1,ln1,lc1,ga1,gn1,gc1,pa1,pn1,pc1,rfl,ho,hb⟩
 have hm8:=hb.size
 have hlo:=ho.lens;obtain ⟨rfl,rfl,rfl,rfl⟩:n=rn∧ln=ln1∧gn=gn1∧pn=pn1:=by have h:=HLN.out;omega
 have HO:=hid ho;clear ho hlo
 have hz:=hb.size
 have hFF:v2.cell? ⟨w.heap.size,0,none⟩=some (.int .i64 ar)∧v2.cell? ⟨w.heap.size,1,none⟩=some (.slice a n c)∧v2.cell? ⟨w.heap.size,2,none⟩=some (.slice la ln lc)∧v2.cell? ⟨w.heap.size,3,none⟩=some (.slice ga gn gc)∧v2.cell? ⟨w.heap.size,4,none⟩=some (.slice pa pn pc)∧v2.cell? ⟨w.heap.size+1,0,none⟩=some (.int .i64 0)∧v2.frozen? ⟨w.heap.size+1,0,none⟩=false∧v2.cell? ⟨w.heap.size+1,1,none⟩=some (.slice none 0 0)∧v2.frozen? ⟨w.heap.size+1,1,none⟩=false∧v2.cell? ⟨w.heap.size+1,2,none⟩=some (.slice none 0 0)∧v2.frozen? ⟨w.heap.size+1,2,none⟩=false∧v2.cell? ⟨w.heap.size+1,3,none⟩=some (.slice none 0 0)∧v2.frozen? ⟨w.heap.size+1,3,none⟩=false∧v2.cell? ⟨w.heap.size+1,4,none⟩=some (.slice none 0 0)∧v2.frozen? ⟨w.heap.size+1,4,none⟩=false∧w.heap.size<v2.heap.size∧w.heap.size+1<v2.heap.size∧w.heap.size+2≤v2.heap.size∧hi≤v2.heap.size:=by (refine ⟨?_,?_,?_,?_,?_,?_,?_,?_,?_,?_,?_,?_,?_,?_,?_,?_,?_,?_,?_⟩) <;> (first | omega | (rw [(bcell hb).1 _ _ (by omega)];with_reducible assumption) | (rw [(bcell hb).2 _ _ (by omega)];with_reducible assumption))
 replace DA:Hid (IterA fz lo hi v2 ar a n c rows la ln lc lw ga gn gc gh pa pn pc ps):=hid (kpIter DA.out (Keeps.of_below hb (by omega)))
 replace HBv1:Hid (Below w.heap.size w v2):=hid (HBv1.out.trans (hb.mono (by omega)))
 clear c0 c1 c2 c3 c4 c5 fc5 c6 fc6 c7 fc7 c8 fc8 c9 fc9 s0 s1 s2 s3
 obtain ⟨c0,c1,c2,c3,c4,c5,fc5,c6,fc6,c7,fc7,c8,fc8,c9,fc9,s0,s1,s2,s3⟩:=hFF
 clear hz hb
 obtain ⟨m0,hm0⟩:∃ m,m=v1.heap.size:=⟨_,rfl⟩
 obtain ⟨m1,hm1⟩:∃ m,m=v2.heap.size:=⟨_,rfl⟩
 rw [← hm0,← hm1] at HO
 have hm2:w.heap.size+2≤m0:=by omega
 have hm4:m0≤m1:=by omega
 clear hm9 hm8
 have hm3:m1≤v2.heap.size:=by omega
 have HM1:=hid hm1;clear hm0 hm1
 by_cases hp:pn=0
 ·have HF:=hid (clOK_nil (ar:=ar) (rows:=rows) (lw:=lw) (gh:=gh) (ps:=ps) (by have h:=HLN.out;omega))
  subst hp
  go_wp2_with fail
  obtain ⟨gb,hgb⟩:∃ g,g=v2.heap.size:=⟨_,rfl⟩
  rw [← hgb]
  have hg1:m1≤gb:=by have h:=HM1.out;omega
  refine absC (fun W=>(W.cell? ⟨w.heap.size,0,none⟩=some (.int .i64 ar)∧W.cell? ⟨w.heap.size,1,none⟩=some (.slice a n c)∧W.cell? ⟨w.heap.size,2,none⟩=some (.slice la ln lc)∧W.cell? ⟨w.heap.size,3,none⟩=some (.slice ga gn gc)∧W.cell? ⟨w.heap.size,4,none⟩=some (.slice pa 0 pc)∧W.cell? ⟨w.heap.size+1,0,none⟩=some (.int .i64 0)∧W.frozen? ⟨w.heap.size+1,0,none⟩=false∧W.cell? ⟨w.heap.size+1,1,none⟩=some (.slice none 0 0)∧W.frozen? ⟨w.heap.size+1,1,none⟩=false∧W.cell? ⟨w.heap.size+1,2,none⟩=some (.slice none 0 0)∧W.frozen? ⟨w.heap.size+1,2,none⟩=false∧W.cell? ⟨w.heap.size+1,3,none⟩=some (.slice none 0 0)∧W.frozen? ⟨w.heap.size+1,3,none⟩=false∧W.cell? ⟨w.heap.size+1,4,none⟩=some (.slice none 0 0)∧W.frozen? ⟨w.heap.size+1,4,none⟩=false∧W.cell? ⟨gb,0,none⟩=some (.int .i64 ar)∧W.frozen? ⟨gb,0,none⟩=false∧W.cell? ⟨gb,1,none⟩=some (.slice ra n rc)∧W.frozen? ⟨gb,1,none⟩=false∧W.cell? ⟨gb,2,none⟩=some (.slice la1 ln lc1)∧W.frozen? ⟨gb,2,none⟩=false∧W.cell? ⟨gb,3,none⟩=some (.slice ga1 gn gc1)∧W.frozen? ⟨gb,3,none⟩=false∧W.cell? ⟨gb,4,none⟩=some (.slice pa1 0 pc1)∧W.frozen? ⟨gb,4,none⟩=false∧w.heap.size<W.heap.size∧w.heap.size+1<W.heap.size∧w.heap.size+2≤W.heap.size∧hi≤W.heap.size∧m1≤W.heap.size∧gb<W.heap.size)∧Hid (IterA fz lo hi W ar a n c rows la ln lc lw ga gn gc gh pa 0 pc ps)∧Hid (IterS m0 m1 W ar ra n rc rows la1 ln lc1 lw ga1 gn gc1 gh pa1 0 pc1 ps)∧Hid (Below w.heap.size w W)) ⟨by (refine ⟨?_,?_,?_,?_,?_,?_,?_,?_,?_,?_,?_,?_,?_,?_,?_,?_,?_,?_,?_,?_,?_,?_,?_,?_,?_,?_,?_,?_,?_,?_,?_⟩) <;> (first | with_reducible assumption | ((try simp only [sz_alloc,sz_drewN,sz_drew1,sz_set]);omega) | (simp (disch:=(first | omega | (simp only [sz_alloc,sz_drewN,sz_drew1,sz_set];omega) | (simp (disch:=(first | omega | (simp only [sz_alloc,sz_drewN,sz_drew1,sz_set];omega))) only [calloc,cdrewN,cdrew1,cset_far,cset_off, *,Option.isSome_some];done))) only [calloc,falloc,cdrewN,cdrew1,fdrewN,fdrew1,cset_far,cset_off,fset_any,World.cell?_setCell_same'];first | done | with_reducible assumption) | (go_simp;done) | (simp;done)),hid (kpIter DA.out (by (repeat (first | (with_reducible refine Keeps.sc ?_ (by first | (left;omega) | (right;omega)) _) | (with_reducible refine Keeps.al ?_ (by first | ((try simp only [sz_alloc,sz_drewN,sz_drew1,sz_set]);omega) | (simp;done) | (simp;omega)) _) | (with_reducible refine Keeps.dr ?_ _)));with_reducible exact Keeps.refl _ _ _)),hid (kpIterS HO.out (by (repeat (first | (with_reducible refine Keeps.sc ?_ (by first | (left;omega) | (right;omega)) _) | (with_reducible refine Keeps.al ?_ (by first | ((try simp only [sz_alloc,sz_drewN,sz_drew1,sz_set]);omega) | (simp;done) | (simp;omega)) _) | (with_reducible refine Keeps.dr ?_ _)));with_reducible exact Keeps.refl _ _ _)),hid (by (repeat (first | (with_reducible refine Below.setCell ?_ (by first | ((try simp only [sz_alloc,sz_drewN,sz_drew1,sz_set]);omega) | (simp;done) | (simp;omega)) _) | (with_reducible refine Below.al ?_ (by first | ((try simp only [sz_alloc,sz_drewN,sz_drew1,sz_set]);omega) | (simp;done) | (simp;omega)) _) | (with_reducible refine below_drewN ?_ _) | (with_reducible refine below_drew1 ?_)));with_reducible exact HBv1.out)⟩ ?_
  clear c0 c1 c2 c3 c4 c5 c6 c7 c8 c9 fc5 fc6 fc7 fc8 fc9 s0 s1 s2 s3 hm3 DA HO HBv1
  rintro v3 ⟨⟨c0,c1,c2,c3,c4,c5,fc5,c6,fc6,c7,fc7,c8,fc8,c9,fc9,c10,fc10,c11,fc11,c12,fc12,c13,fc13,c14,fc14,s0,s1,s2,s3,hm3,s5⟩,DA,HO,HBv3⟩
  clear hgb
  refine (specValidIt ar a n c rows la ln lc lw ga gn gc gh pa 0 pc ps _ DA.out (by omega)).mono ?_
  rintro e v4 ⟨rfl,hb⟩
  have hz:=hb.size
  have hFF:v4.cell? ⟨w.heap.size,0,none⟩=some (.int .i64 ar)∧v4.cell? ⟨w.heap.size,1,none⟩=some (.slice a n c)∧v4.cell? ⟨w.heap.size,2,none⟩=some (.slice la ln lc)∧v4.cell? ⟨w.heap.size,3,none⟩=some (.slice ga gn gc)∧v4.cell? ⟨w.heap.size,4,none⟩=some (.slice pa 0 pc)∧v4.cell? ⟨w.heap.size+1,0,none⟩=some (.int .i64 0)∧v4.frozen? ⟨w.heap.size+1,0,none⟩=false∧v4.cell? ⟨w.heap.size+1,1,none⟩=some (.slice none 0 0)∧v4.frozen? ⟨w.heap.size+1,1,none⟩=false∧v4.cell? ⟨w.heap.size+1,2,none⟩=some (.slice none 0 0)∧v4.frozen? ⟨w.heap.size+1,2,none⟩=false∧v4.cell? ⟨w.heap.size+1,3,none⟩=some (.slice none 0 0)∧v4.frozen? ⟨w.heap.size+1,3,none⟩=false∧v4.cell? ⟨w.heap.size+1,4,none⟩=some (.slice none 0 0)∧v4.frozen? ⟨w.heap.size+1,4,none⟩=false∧v4.cell? ⟨gb,0,none⟩=some (.int .i64 ar)∧v4.frozen? ⟨gb,0,none⟩=false∧v4.cell? ⟨gb,1,none⟩=some (.slice ra n rc)∧v4.frozen? ⟨gb,1,none⟩=false∧v4.cell? ⟨gb,2,none⟩=some (.slice la1 ln lc1)∧v4.frozen? ⟨gb,2,none⟩=false∧v4.cell? ⟨gb,3,none⟩=some (.slice ga1 gn gc1)∧v4.frozen? ⟨gb,3,none⟩=false∧v4.cell? ⟨gb,4,none⟩=some (.slice pa1 0 pc1)∧v4.frozen? ⟨gb,4,none⟩=false∧w.heap.size<v4.heap.size∧w.heap.size+1<v4.heap.size∧w.heap.size+2≤v4.heap.size∧hi≤v4.heap.size∧m1≤v4.heap.size∧gb<v4.heap.size:=by (refine ⟨?_,?_,?_,?_,?_,?_,?_,?_,?_,?_,?_,?_,?_,?_,?_,?_,?_,?_,?_,?_,?_,?_,?_,?_,?_,?_,?_,?_,?_,?_,?_⟩) <;> (first | omega | (rw [(bcell hb).1 _ _ (by omega)];with_reducible assumption) | (rw [(bcell hb).2 _ _ (by omega)];with_reducible assumption))
  replace DA:Hid (IterA fz lo hi v4 ar a n c rows la ln lc lw ga gn gc gh pa 0 pc ps):=hid (kpIter DA.out (Keeps.of_below hb (by omega)))
  replace HO:Hid (IterS m0 m1 v4 ar ra n rc rows la1 ln lc1 lw ga1 gn gc1 gh pa1 0 pc1 ps):=hid (kpIterS HO.out (Keeps.of_below hb (by omega)))
  replace HBv3:Hid (Below w.heap.size w v4):=hid (HBv3.out.trans (hb.mono (by omega)))
  clear c0 c1 c2 c3 c4 c5 fc5 c6 fc6 c7 fc7 c8 fc8 c9 fc9 c10 fc10 c11 fc11 c12 fc12 c13 fc13 c14 fc14 s0 s1 s2 s3 hm3 s5
  obtain ⟨c0,c1,c2,c3,c4,c5,fc5,c6,fc6,c7,fc7,c8,fc8,c9,fc9,c10,fc10,c11,fc11,c12,fc12,c13,fc13,c14,fc14,s0,s1,s2,s3,hm3,s5⟩:=hFF
  clear hz hb
  obtain ⟨vb,hvb⟩:∃ vb,validIt ar rows lw gh ps=vb:=⟨_,rfl⟩
  rw [hvb];have HVB:=hid hvb;clear hvb
  cases vb
  ·go_wp2
   refine bodyPost_ret (v:=.tuple #[iterV ar ra n rc la1 ln lc1 ga1 gn gc1 pa1 0 pc1,.bool false]) (by simp [results,Try.results58,go_sem,c0,c1,c2,c3,c4,c5,c6,c7,c8,c9,c10,c11,c12,c13,c14]) rfl ⟨ra,n,rc,la1,ln,lc1,ga1,gn,gc1,pa1,0,pc1,(by rw [HF.out]),?_,?_⟩
   ·rw [HF.out];exact hgIterS (wdIterS (kpIterS HO.out (by (repeat (first | (with_reducible refine Keeps.sc ?_ (by first | (left;omega) | (right;omega)) _) | (with_reducible refine Keeps.al ?_ (by first | ((try simp only [sz_alloc,sz_drewN,sz_drew1,sz_set]);omega) | (simp;done) | (simp;omega)) _) | (with_reducible refine Keeps.dr ?_ _)));with_reducible exact Keeps.refl _ _ _)) (by omega)) (by first | ((try simp only [sz_alloc,sz_drewN,sz_drew1,sz_set]);omega) | (simp;done) | (simp;omega))
   ·have hq:=HBv3.out;(repeat (with_reducible refine Below.setCell ?_ (by first | ((try simp only [sz_alloc,sz_drewN,sz_drew1,sz_set]);omega) | (simp;done) | (simp;omega)) _));with_reducible exact hq
  ·go_wp2
   refine bodyPost_ret (v:=.tuple #[iterV ar ra n rc la1 ln lc1 ga1 gn gc1 pa1 0 pc1,.bool false]) (by simp [results,Try.results58,go_sem,c0,c1,c2,c3,c4,c5,c6,c7,c8,c9,c10,c11,c12,c13,c14]) rfl ⟨ra,n,rc,la1,ln,lc1,ga1,gn,gc1,pa1,0,pc1,(by rw [HF.out]),?_,?_⟩
   ·rw [HF.out];exact hgIterS (wdIterS (kpIterS HO.out (by (repeat (first | (with_reducible refine Keeps.sc ?_ (by first | (left;omega) | (right;omega)) _) | (with_reducible refine Keeps.al ?_ (by first | ((try simp only [sz_alloc,sz_drewN,sz_drew1,sz_set]);omega) | (simp;done) | (simp;omega)) _) | (with_reducible refine Keeps.dr ?_ _)));with_reducible exact Keeps.refl _ _ _)) (by omega)) (by first | ((try simp only [sz_alloc,sz_drewN,sz_drew1,sz_set]);omega) | (simp;done) | (simp;omega))
   ·have hq:=HBv3.out;(repeat (with_reducible refine Below.setCell ?_ (by first | ((try simp only [sz_alloc,sz_drewN,sz_drew1,sz_set]);omega) | (simp;done) | (simp;omega)) _));with_reducible exact hq
 ·obtain ⟨l,hl⟩:∃ l,pn=l+1:=⟨pn - 1,by omega⟩
  subst hl;clear hp
  have hcp:=HO.out.caps;unfold maxLen at hcp
  obtain ⟨⟨k1,k2⟩,⟨k3,k4⟩,⟨k5,k6⟩⟩:=hcp
  have hw1:IntKind.i64.wrap ((l:Int)+1 - 1)=l:=by rw [show (l:Int)+1 - 1=l by omega];exact IntWalk.i64_in _ (by omega)
  have k9:(l:Int)≤pc1:=by omega
  have k12:l≤pc1:=by omega
  have hnb:(((l:Int)+1) == 0)=false:=by simp;omega
  go_wp2_with fail
  obtain ⟨gb,hgb⟩:∃ g,g=v2.heap.size:=⟨_,rfl⟩
  rw [← hgb]
  have hg1:m1≤gb:=by have h:=HM1.out;omega
  refine absC (fun W=>(W.cell? ⟨w.heap.size,0,none⟩=some (.int .i64 ar)∧W.cell? ⟨w.heap.size,1,none⟩=some (.slice a n c)∧W.cell? ⟨w.heap.size,2,none⟩=some (.slice la ln lc)∧W.cell? ⟨w.heap.size,3,none⟩=some (.slice ga gn gc)∧W.cell? ⟨w.heap.size,4,none⟩=some (.slice pa (l+1) pc)∧W.cell? ⟨w.heap.size+1,0,none⟩=some (.int .i64 0)∧W.frozen? ⟨w.heap.size+1,0,none⟩=false∧W.cell? ⟨w.heap.size+1,1,none⟩=some (.slice none 0 0)∧W.frozen? ⟨w.heap.size+1,1,none⟩=false∧W.cell? ⟨w.heap.size+1,2,none⟩=some (.slice none 0 0)∧W.frozen? ⟨w.heap.size+1,2,none⟩=false∧W.cell? ⟨w.heap.size+1,3,none⟩=some (.slice none 0 0)∧W.frozen? ⟨w.heap.size+1,3,none⟩=false∧W.cell? ⟨w.heap.size+1,4,none⟩=some (.slice none 0 0)∧W.frozen? ⟨w.heap.size+1,4,none⟩=false∧W.cell? ⟨gb,0,none⟩=some (.int .i64 ar)∧W.frozen? ⟨gb,0,none⟩=false∧W.cell? ⟨gb,1,none⟩=some (.slice ra n rc)∧W.frozen? ⟨gb,1,none⟩=false∧W.cell? ⟨gb,2,none⟩=some (.slice la1 ln lc1)∧W.frozen? ⟨gb,2,none⟩=false∧W.cell? ⟨gb,3,none⟩=some (.slice ga1 gn gc1)∧W.frozen? ⟨gb,3,none⟩=false∧W.cell? ⟨gb,4,none⟩=some (.slice pa1 (l+1) pc1)∧W.frozen? ⟨gb,4,none⟩=false∧w.heap.size<W.heap.size∧w.heap.size+1<W.heap.size∧w.heap.size+2≤W.heap.size∧hi≤W.heap.size∧m1≤W.heap.size∧gb<W.heap.size)∧Hid (IterA fz lo hi W ar a n c rows la ln lc lw ga gn gc gh pa (l+1) pc ps)∧Hid (IterS m0 m1 W ar ra n rc rows la1 ln lc1 lw ga1 gn gc1 gh pa1 (l+1) pc1 ps)∧Hid (Below w.heap.size w W)) ⟨by (refine ⟨?_,?_,?_,?_,?_,?_,?_,?_,?_,?_,?_,?_,?_,?_,?_,?_,?_,?_,?_,?_,?_,?_,?_,?_,?_,?_,?_,?_,?_,?_,?_⟩) <;> (first | with_reducible assumption | ((try simp only [sz_alloc,sz_drewN,sz_drew1,sz_set]);omega) | (simp (disch:=(first | omega | (simp only [sz_alloc,sz_drewN,sz_drew1,sz_set];omega) | (simp (disch:=(first | omega | (simp only [sz_alloc,sz_drewN,sz_drew1,sz_set];omega))) only [calloc,cdrewN,cdrew1,cset_far,cset_off, *,Option.isSome_some];done))) only [calloc,falloc,cdrewN,cdrew1,fdrewN,fdrew1,cset_far,cset_off,fset_any,World.cell?_setCell_same'];first | done | with_reducible assumption) | (go_simp;done) | (simp;done)),hid (kpIter DA.out (by (repeat (first | (with_reducible refine Keeps.sc ?_ (by first | (left;omega) | (right;omega)) _) | (with_reducible refine Keeps.al ?_ (by first | ((try simp only [sz_alloc,sz_drewN,sz_drew1,sz_set]);omega) | (simp;done) | (simp;omega)) _) | (with_reducible refine Keeps.dr ?_ _)));with_reducible exact Keeps.refl _ _ _)),hid (kpIterS HO.out (by (repeat (first | (with_reducible refine Keeps.sc ?_ (by first | (left;omega) | (right;omega)) _) | (with_reducible refine Keeps.al ?_ (by first | ((try simp only [sz_alloc,sz_drewN,sz_drew1,sz_set]);omega) | (simp;done) | (simp;omega)) _) | (with_reducible refine Keeps.dr ?_ _)));with_reducible exact Keeps.refl _ _ _)),hid (by (repeat (first | (with_reducible refine Below.setCell ?_ (by first | ((try simp only [sz_alloc,sz_drewN,sz_drew1,sz_set]);omega) | (simp;done) | (simp;omega)) _) | (with_reducible refine Below.al ?_ (by first | ((try simp only [sz_alloc,sz_drewN,sz_drew1,sz_set]);omega) | (simp;done) | (simp;omega)) _) | (with_reducible refine below_drewN ?_ _) | (with_reducible refine below_drew1 ?_)));with_reducible exact HBv1.out)⟩ ?_
  clear c0 c1 c2 c3 c4 c5 c6 c7 c8 c9 fc5 fc6 fc7 fc8 fc9 s0 s1 s2 s3 hm3 DA HO HBv1
  rintro v3 ⟨⟨c0,c1,c2,c3,c4,c5,fc5,c6,fc6,c7,fc7,c8,fc8,c9,fc9,c10,fc10,c11,fc11,c12,fc12,c13,fc13,c14,fc14,s0,s1,s2,s3,hm3,s5⟩,DA,HO,HBv3⟩
  clear hgb
  refine (specValidIt ar a n c rows la ln lc lw ga gn gc gh pa (l+1) pc ps _ DA.out (by omega)).mono ?_
  rintro e v4 ⟨rfl,hb⟩
  have hz:=hb.size
  have hFF:v4.cell? ⟨w.heap.size,0,none⟩=some (.int .i64 ar)∧v4.cell? ⟨w.heap.size,1,none⟩=some (.slice a n c)∧v4.cell? ⟨w.heap.size,2,none⟩=some (.slice la ln lc)∧v4.cell? ⟨w.heap.size,3,none⟩=some (.slice ga gn gc)∧v4.cell? ⟨w.heap.size,4,none⟩=some (.slice pa (l+1) pc)∧v4.cell? ⟨w.heap.size+1,0,none⟩=some (.int .i64 0)∧v4.frozen? ⟨w.heap.size+1,0,none⟩=false∧v4.cell? ⟨w.heap.size+1,1,none⟩=some (.slice none 0 0)∧v4.frozen? ⟨w.heap.size+1,1,none⟩=false∧v4.cell? ⟨w.heap.size+1,2,none⟩=some (.slice none 0 0)∧v4.frozen? ⟨w.heap.size+1,2,none⟩=false∧v4.cell? ⟨w.heap.size+1,3,none⟩=some (.slice none 0 0)∧v4.frozen? ⟨w.heap.size+1,3,none⟩=false∧v4.cell? ⟨w.heap.size+1,4,none⟩=some (.slice none 0 0)∧v4.frozen? ⟨w.heap.size+1,4,none⟩=false∧v4.cell? ⟨gb,0,none⟩=some (.int .i64 ar)∧v4.frozen? ⟨gb,0,none⟩=false∧v4.cell? ⟨gb,1,none⟩=some (.slice ra n rc)∧v4.frozen? ⟨gb,1,none⟩=false∧v4.cell? ⟨gb,2,none⟩=some (.slice la1 ln lc1)∧v4.frozen? ⟨gb,2,none⟩=false∧v4.cell? ⟨gb,3,none⟩=some (.slice ga1 gn gc1)∧v4.frozen? ⟨gb,3,none⟩=false∧v4.cell? ⟨gb,4,none⟩=some (.slice pa1 (l+1) pc1)∧v4.frozen? ⟨gb,4,none⟩=false∧w.heap.size<v4.heap.size∧w.heap.size+1<v4.heap.size∧w.heap.size+2≤v4.heap.size∧hi≤v4.heap.size∧m1≤v4.heap.size∧gb<v4.heap.size:=by (refine ⟨?_,?_,?_,?_,?_,?_,?_,?_,?_,?_,?_,?_,?_,?_,?_,?_,?_,?_,?_,?_,?_,?_,?_,?_,?_,?_,?_,?_,?_,?_,?_⟩) <;> (first | omega | (rw [(bcell hb).1 _ _ (by omega)];with_reducible assumption) | (rw [(bcell hb).2 _ _ (by omega)];with_reducible assumption))
  replace DA:Hid (IterA fz lo hi v4 ar a n c rows la ln lc lw ga gn gc gh pa (l+1) pc ps):=hid (kpIter DA.out (Keeps.of_below hb (by omega)))
  replace HO:Hid (IterS m0 m1 v4 ar ra n rc rows la1 ln lc1 lw ga1 gn gc1 gh pa1 (l+1) pc1 ps):=hid (kpIterS HO.out (Keeps.of_below hb (by omega)))
  replace HBv3:Hid (Below w.heap.size w v4):=hid (HBv3.out.trans (hb.mono (by omega)))
  clear c0 c1 c2 c3 c4 c5 fc5 c6 fc6 c7 fc7 c8 fc8 c9 fc9 c10 fc10 c11 fc11 c12 fc12 c13 fc13 c14 fc14 s0 s1 s2 s3 hm3 s5
  obtain ⟨c0,c1,c2,c3,c4,c5,fc5,c6,fc6,c7,fc7,c8,fc8,c9,fc9,c10,fc10,c11,fc11,c12,fc12,c13,fc13,c14,fc14,s0,s1,s2,s3,hm3,s5⟩:=hFF
  clear hz hb
  obtain ⟨vb,hvb⟩:∃ vb,validIt ar rows lw gh ps=vb:=⟨_,rfl⟩
  rw [hvb];have HVB:=hid hvb;clear hvb
  cases vb with
  | false =>
   have HF:=hid (clOK_inv HVB.out)
   go_wp2
   refine bodyPost_ret (v:=.tuple #[iterV ar ra n rc la1 ln lc1 ga1 gn gc1 pa1 (l+1) pc1,.bool false]) (by simp [results,Try.results58,go_sem,c0,c1,c2,c3,c4,c5,c6,c7,c8,c9,c10,c11,c12,c13,c14]) rfl ⟨ra,n,rc,la1,ln,lc1,ga1,gn,gc1,pa1,(l+1),pc1,(by rw [HF.out]),?_,?_⟩
   ·rw [HF.out];exact hgIterS (wdIterS (kpIterS HO.out (by (repeat (first | (with_reducible refine Keeps.sc ?_ (by first | (left;omega) | (right;omega)) _) | (with_reducible refine Keeps.al ?_ (by first | ((try simp only [sz_alloc,sz_drewN,sz_drew1,sz_set]);omega) | (simp;done) | (simp;omega)) _) | (with_reducible refine Keeps.dr ?_ _)));with_reducible exact Keeps.refl _ _ _)) (by omega)) (by first | ((try simp only [sz_alloc,sz_drewN,sz_drew1,sz_set]);omega) | (simp;done) | (simp;omega))
   ·have hq:=HBv3.out;(repeat (with_reducible refine Below.setCell ?_ (by first | ((try simp only [sz_alloc,sz_drewN,sz_drew1,sz_set]);omega) | (simp;done) | (simp;omega)) _));with_reducible exact hq
  | true =>
   have HF:Hid (clOK ar rows lw gh ps=true):=hid (clOK_yes HVB.out (by have h:=HLN.out;omega))
   obtain ⟨hl1,hl2⟩:ln=l+1∧gn=l+1:=by have h:=validIt_out HVB.out;have h2:=HLN.out;omega
   subst hl1 hl2
   have k7:(l:Int)≤lc1:=by omega
   have k8:(l:Int)≤gc1:=by omega
   have k10:l≤lc1:=by omega
   have k11:l≤gc1:=by omega
   have HF2:Hid (clT (clOK ar rows lw gh ps) ps.length lw=lw.take l∧clT (clOK ar rows lw gh ps) ps.length gh=gh.take l∧clT (clOK ar rows lw gh ps) ps.length ps=ps.take l):=hid (by rw [HF.out,HLN.out.2.2.2];exact ⟨rfl,rfl,rfl⟩)
   go_wp2
   refine bodyPost_ret (v:=.tuple #[iterV ar ra n rc la1 l lc1 ga1 l gc1 pa1 l pc1,.bool true]) (by simp [results,Try.results58,go_sem,c0,c1,c2,c3,c4,c5,c6,c7,c8,c9,c10,c11,c12,c13,c14]) rfl ⟨ra,n,rc,la1,l,lc1,ga1,l,gc1,pa1,l,pc1,(by rw [HF.out]),?_,?_⟩
   ·rw [HF2.out.1,HF2.out.2.1,HF2.out.2.2];exact hgIterS (wdIterS (kpIterS (HO.out.cut (j:=l) (by omega) (by omega) (by omega)) (by (repeat (first | (with_reducible refine Keeps.sc ?_ (by first | (left;omega) | (right;omega)) _) | (with_reducible refine Keeps.al ?_ (by first | ((try simp only [sz_alloc,sz_drewN,sz_drew1,sz_set]);omega) | (simp;done) | (simp;omega)) _) | (with_reducible refine Keeps.dr ?_ _)));with_reducible exact Keeps.refl _ _ _)) (by omega)) (by first | ((try simp only [sz_alloc,sz_drewN,sz_drew1,sz_set]);omega) | (simp;done) | (simp;omega))
   ·have hq:=HBv3.out;(repeat (with_reducible refine Below.setCell ?_ (by first | ((try simp only [sz_alloc,sz_drewN,sz_drew1,sz_set]);omega) | (simp;done) | (simp;omega)) _));with_reducible exact hq
end Go.Proofs.Ytfobmfngbfbfdaa
