/- Lemmas for the proof of FnIteration, part 2 of 24: no condition of their own. -/
import Derived.Test.YtfobmfngbfbfdaaJ1
import Derived.Deep.Slices
import Derived.Deep.RegionHeld3
import Derived.Deep.CutBlock
import Derived.Deep.DeepCutAuto
namespace Go.Proofs.Ytfobmfngbfbfdaa
set_option linter.unusedSimpArgs false
set_option linter.unusedVariables false
open Go.RowKit
theorem calloc {w:World} {b o:Nat} (O:Obj) (h:b<w.heap.size):(w.alloc O).cell? ⟨b,o,none⟩=w.cell? ⟨b,o,none⟩:=World.cell?_of_block (w:=w) (Below.heap_alloc _ _ _ h)
theorem falloc {w:World} {b o:Nat} (O:Obj) (h:b<w.heap.size):(w.alloc O).frozen? ⟨b,o,none⟩=w.frozen? ⟨b,o,none⟩:=World.frozen?_of_block (w:=w) (Below.heap_alloc _ _ _ h)
theorem cdrewN (w:World) (k:Nat) (p:Addr):(w.drewN k).cell? p=w.cell? p:=rfl
theorem cdrew1 (w:World) (p:Addr):w.drew.cell? p=w.cell? p:=rfl
theorem fdrewN (w:World) (k:Nat) (p:Addr):(w.drewN k).frozen? p=w.frozen? p:=rfl
theorem fdrew1 (w:World) (p:Addr):w.drew.frozen? p=w.frozen? p:=rfl
theorem cset_far {w:World} {b o b' o':Nat} {v:Value} (h:b ≠ b'):(w.setCell ⟨b,o,none⟩ v).cell? ⟨b',o',none⟩=w.cell? ⟨b',o',none⟩:=by
 apply World.cell?_setCell_other
 intro e;cases e;exact h rfl
theorem sz_alloc (w:World) (O:Obj):(w.alloc O).heap.size=w.heap.size+1:=by simp
theorem sz_drewN (w:World) (k:Nat):(w.drewN k).heap.size=w.heap.size:=rfl
theorem sz_drew1 (w:World):w.drew.heap.size=w.heap.size:=rfl
theorem sz_set (w:World) (a:Addr) (v:Value):(w.setCell a v).heap.size=w.heap.size:=by simp [World.setCell]
theorem fset_any (w:World) (a b:Addr) (v:Value):(w.setCell a v).frozen? b=w.frozen? b:=by simp
def Later (B:Nat) (w0:World):Type:={w':World // Below B w0 w'}
def Later.w {B:Nat} {w0:World} (x:Later B w0):World:=x.1
theorem Later.be {B:Nat} {w0:World} (x:Later B w0):Below B w0 x.w:=x.2
instance (B:Nat) (w0:World):Nonempty (Later B w0):=⟨⟨w0,Below.refl B w0⟩⟩
theorem below_drew1 {B:Nat} {a w:World} (h:Below B a w):Below B a w.drew:=⟨h.os,h.tape,h.output,h.size,h.block⟩
theorem wp_region_later {B:Nat} {w0:World} {id:Nat} {Q:Exit→Act→World→Prop} {a:Act} {w:World} {l:List Oper} (hm:Try.prog.follows .mixedOrders=true) (hB:Region.lexB .any l.toArray=true) (hw:Below B w0 w)
 (h:wpQuiet Try.prog l.toArray (fun w'=>∃ n:Later B w0,w'=n.w) (fun a'=>∀ w',(∃ n:Later B w0,w'=n.w)→Q .normal a' w') l a):(Code.region id l.toArray true).wp Try.prog Q a w:=wp_region_quiet (C:=fun w'=>∃ n:Later B w0,w'=n.w) hm hB ⟨⟨w.drew,below_drew1 hw⟩,rfl⟩ (by simpa using h)
theorem later_of {B:Nat} {w0:World} {f:FuncId} {args:Array Value} {v:Value} (n:Later B w0) (hB:B≤w0.heap.size) (h:Calls Try.prog f args n.w (Leaves n.w v)) :
 Calls Try.prog f args n.w fun e w''=>e=.returned v∧∃ m:Later B w0,w''=m.w:=h.mono fun _ w'' ⟨he,hb⟩=>⟨he,⟨w'',n.be.trans (hb.mono (Nat.le_trans hB n.be.size))⟩,rfl⟩
theorem later_gives {B:Nat} {w0:World} {f:FuncId} {args:Array Value} {v:Value} (n:Later B w0) (hB:B≤w0.heap.size) (h:Calls Try.prog f args n.w (Gives n.w v)) :
 Calls Try.prog f args n.w fun e w''=>e=.returned v∧∃ m:Later B w0,w''=m.w:=later_of n hB (h.mono fun _ _ h=>h.leaves)
theorem Later.cell {B:Nat} {w0:World} {b o:Nat} {v:Value} (h:w0.cell? ⟨b,o,none⟩=some v) (hb:b<B) (x:Later B w0):x.w.cell? ⟨b,o,none⟩=some v:=by
 rw [x.be.cell (p:=⟨b,o,none⟩) hb];exact h
theorem Later.size {B:Nat} {w0:World} (x:Later B w0):w0.heap.size≤x.w.heap.size:=x.be.size
end Go.Proofs.Ytfobmfngbfbfdaa
namespace Go.Proofs.Ytfobmfngbfbfdaa
set_option linter.unusedSimpArgs false
set_option linter.unusedVariables false
open Go.RowKit
open Classical in
noncomputable def eqT (ar ar':Int) (rows rows':List (List Int)):Bool:=decide (ar=ar'∧rows=rows')
end Go.Proofs.Ytfobmfngbfbfdaa
namespace Go.Proofs.Ytfobmfngbfbfdaa
set_option linter.unusedSimpArgs false
set_option linter.unusedVariables false
open Go.RowKit
theorem cmpR_s7 (xs:List Int):cmpR xs xs=0:=by
 induction xs with
 | nil=>rfl
 | cons x xs ih=>simp [cmpR,ih]
theorem cmpR_z7 {xs ys:List Int} (h:cmpR xs ys=0):xs=ys:=by
 induction xs generalizing ys with
 | nil=>cases ys with
  | nil=>rfl
  | cons y ys=>simp [cmpR] at h
 | cons x xs ih=>cases ys with
  | nil=>simp [cmpR] at h
  | cons y ys =>
   simp only [cmpR] at h
   split at h
   ·next e=>rw [e,ih h]
   · next e =>unfold cmpI at h;split at h
              ·omega
              ·split at h <;> omega
theorem cmpR_eqL (xs ys:List Int):(cmpR xs ys == 0)=eqL xs ys:=by
 rw [Bool.eq_iff_iff];simp only [beq_iff_eq,eqL,decide_eq_true_eq]
 exact ⟨cmpR_z7,fun h=>by rw [h];exact cmpR_s7 ys⟩
set_option maxHeartbeats 800000 in
theorem implSameInts {fz fz':Bool} {lo hi lo' hi':Nat} (a a':Option Addr) (n c n' c':Nat) (xs ys:List Int) (w:World) (hI:IntsA fz lo hi w a n c xs) (hJ:IntsA fz' lo' hi' w a' n' c' ys) :
 Calls Try.prog 44 #[.slice a n c,.slice a' n' c'] w (Gives w (.bool (eqL xs ys))):=by
 have hl:=hI.len
 have hs:=hI.small
 have hl':=hJ.len
 have hs':=hJ.small
 have HL:=hid (And.intro hl hl');clear hl hl'
 by_cases hn:n=n'
 ·subst hn
  go_enter Try.func44,Try.ntmps44
  go_wp2
  go_loopw [13] (fun i wr=>∃ k:Nat,i=.int .i64 k∧k≤n∧Hid (∀ j,j<k→ix xs j=ix ys j)∧Hid (∃ m,wr=w.drewN m)) (fun i _=>n - (intOf i).toNat)
  case atStart=>exact ⟨0,rfl,by omega,hid (fun i hi=>by omega),hid ⟨0,rfl⟩⟩
  case round =>
   obtain ⟨k,rfl,hk,HT,HD⟩:=hrel
   by_cases hlt:k<n
   ·have hIr:=hI.keep (keeps_dr lo hi HD.out)
    have hJr:=hJ.keep (keeps_dr lo' hi' HD.out)
    obtain ⟨b,off,rfl,_,_,hc,_⟩:=hIr.open (by omega)
    obtain ⟨b',off',rfl,_,_,hc',_⟩:=hJr.open (by omega)
    have c0:=hc k hlt
    have c1:=hc' k hlt
    have HI:=hid (And.intro (And.intro hI hJ) (And.intro hIr hJr));clear hI hJ hIr hJr hc hc'
    generalize hxe:ix xs k=x at *
    generalize hye:ix ys k=y at *
    have HX:=hid (And.intro hxe hye);clear hxe hye
    by_cases he:x=y
    ·have hb:(x != y)=false:=by simp [he]
     have HT2:Hid (∀ j,j<k+1→ix xs j=ix ys j):=hid (fun i hi=>by
      by_cases e:i=k
      ·subst e;rw [HX.out.1,HX.out.2];exact he
      ·exact HT.out i (by omega))
     have HE:=hid he;clear he
     go_wp2
     go_quiet (fail)
     go_wp2
     go_roundw
     case rel=>exact ⟨k+1,by go_num,by omega,HT2,hid (by first | exact HD.out | exact dr_more HD.out _ | (rw [dd];exact dr_more HD.out _) | (rw [dd,dd];exact dr_more HD.out _) | exact ⟨_,rfl⟩ | exact ⟨_,dd⟩)⟩
     case measure=>simp [intOf];omega
    ·have hb:(x != y)=true:=by simp [he]
     have HF:=hid (eqL_ne (xs:=xs) (ys:=ys) (i:=k) (by rw [HX.out.1,HX.out.2];exact he))
     have HE:=hid he;clear he
     go_wp2
     go_quiet (fail)
     go_wp2
     go_ret
     exact ⟨by rw [HF.out];rfl,(by first | exact HD.out | exact dr_more HD.out _ | (rw [dd];exact dr_more HD.out _) | (rw [dd,dd];exact dr_more HD.out _) | exact ⟨_,rfl⟩ | exact ⟨_,dd⟩)⟩
   ·have HF:=hid (eqL_true (xs:=xs) (ys:=ys) (by rw [HL.out.1,HL.out.2]) (by rw [HL.out.1];intro i hi;exact HT.out i (by omega)))
    go_wp2
    go_ret
    exact ⟨by rw [HF.out];rfl,HD.out⟩
 ·have hb:((n:Int) != (n':Int))=true:=by rw [bne_iff_ne];omega
  have HF:=hid (eqL_len (xs:=xs) (ys:=ys) (by rw [HL.out.1,HL.out.2];exact hn))
  have HN:=hid hn;clear hn
  go_enter Try.func44,Try.ntmps44
  go_wp2
  go_ret
  exact ⟨by rw [HF.out];rfl,0,rfl⟩
set_option maxHeartbeats 800000 in
theorem implSameRows {fz fz':Bool} {lo hi lo' hi':Nat} (a a':Option Addr) (n c n' c':Nat) (xs ys:List (List Int)) (w:World) (hI:RowsA fz lo hi w a n c xs) (hJ:RowsA fz' lo' hi' w a' n' c' ys) :
 Calls Try.prog 54 #[.slice a n c,.slice a' n' c'] w (Gives w (.bool (eqLL xs ys))):=by
 have hl:=hI.len
 have hs:=hI.small
 have hl':=hJ.len
 have hs':=hJ.small
 have HL:=hid (And.intro hl hl');clear hl hl'
 by_cases hn:n=n'
 ·subst hn
  go_enter Try.func54,Try.ntmps54
  go_wp2
  go_loopw [13] (fun i wr=>∃ k:Nat,i=.int .i64 k∧k≤n∧Hid (∀ j,j<k→rx xs j=rx ys j)∧Hid (∃ m,wr=w.drewN m)) (fun i _=>n - (intOf i).toNat)
  case atStart=>exact ⟨0,rfl,by omega,hid (fun i hi=>by omega),hid ⟨0,rfl⟩⟩
  case round =>
   obtain ⟨k,rfl,hk,HT,HD⟩:=hrel
   by_cases hlt:k<n
   ·have hIr:RowsA fz lo hi wr a n c xs:=hI.keep intsOK (keeps_dr lo hi HD.out)
    have hJr:RowsA fz' lo' hi' wr a' n c' ys:=hJ.keep intsOK (keeps_dr lo' hi' HD.out)
    obtain ⟨b,off,rfl⟩:=hI.some (by omega)
    obtain ⟨_,_,ra,rn,rc,hc,hr,_⟩:=hIr.at hlt
    obtain ⟨b',off',rfl⟩:=hJ.some (by omega)
    obtain ⟨_,_,ra',rn',rc',hc',hr',_⟩:=hJr.at hlt
    obtain ⟨e,he⟩:∃ e,eqL (rx xs k) (rx ys k)=e:=⟨_,rfl⟩
    have HC:=hid (fun m=>by have:=implSameInts ra ra' rn rc rn' rc' _ _ (wr.drewN m) (hr.drewN m) (hr'.drewN m);rwa [he] at this)
    have HI:=hid (And.intro (And.intro hI hJ) (And.intro hIr (And.intro hJr (And.intro hr (And.intro hr' he)))));clear hI hJ hIr hJr hr hr' he
    cases e with
    | true =>
     have HT2:Hid (∀ j,j<k+1→rx xs j=rx ys j):=hid (fun i hi=>by
      by_cases e:i=k
      ·subst e;exact eqL_yes HI.out.2.2.2.2.2
      ·exact HT.out i (by omega))
     go_wp2
     go_quiet ((go_at_call 44;exact (Calls.quiet_of (HC.out _))))
     go_wp2
     go_roundw
     case rel=>exact ⟨k+1,by go_num,by omega,HT2,hid (by first | exact HD.out | exact dr_more HD.out _ | (rw [dd];exact dr_more HD.out _) | (rw [dd,dd];exact dr_more HD.out _) | exact ⟨_,rfl⟩ | exact ⟨_,dd⟩)⟩
     case measure=>simp [intOf];omega
    | false =>
     have HF:=hid (eqLL_ne (xs:=xs) (ys:=ys) (i:=k) (eqL_no HI.out.2.2.2.2.2))
     go_wp2
     go_quiet ((go_at_call 44;exact (Calls.quiet_of (HC.out _))))
     go_wp2
     go_ret
     exact ⟨by rw [HF.out];rfl,(by first | exact HD.out | exact dr_more HD.out _ | (rw [dd];exact dr_more HD.out _) | (rw [dd,dd];exact dr_more HD.out _) | exact ⟨_,rfl⟩ | exact ⟨_,dd⟩)⟩
   ·have HF:=hid (eqLL_true (xs:=xs) (ys:=ys) (by rw [HL.out.1,HL.out.2]) (by rw [HL.out.1];intro i hi;exact HT.out i (by omega)))
    go_wp2
    go_ret
    exact ⟨by rw [HF.out];rfl,HD.out⟩
 ·have hb:((n:Int) != (n':Int))=true:=by rw [bne_iff_ne];omega
  have HF:=hid (eqLL_len (xs:=xs) (ys:=ys) (by rw [HL.out.1,HL.out.2];exact hn))
  have HN:=hid hn;clear hn
  go_enter Try.func54,Try.ntmps54
  go_wp2
  go_ret
  exact ⟨by rw [HF.out];rfl,0,rfl⟩
set_option maxHeartbeats 800000 in
theorem implEqRel {fz fz':Bool} {lo hi lo' hi':Nat} (ar ar':Int) (a a':Option Addr) (n c n' c':Nat) (rows rows':List (List Int)) (w:World) (hI:RowsA fz lo hi w a n c rows) (hh:hi≤w.heap.size) (hJ:RowsA fz' lo' hi' w a' n' c' rows') (hh':hi'≤w.heap.size) :
 Calls Try.prog 42 #[trieV ar a n c,trieV ar' a' n' c'] w (Leaves w (.bool (eqT ar ar' rows rows'))):=by
 by_cases he:ar=ar'
 ·have hb:(ar == ar')=true:=by simp [he]
  have hE:eqT ar ar' rows rows'=eqLL rows rows':=by unfold eqT eqLL;simp [he]
  rw [hE]
  have HE:=hid (And.intro he hE);clear he hE
  go_enter Try.func42,Try.ntmps42
  go_wp2_with fail
  refine (implSameRows a a' n c n' c' rows rows' _ (hI.be intsOK (B:=w.heap.size) belA hh) (hJ.be intsOK (B:=w.heap.size) belA hh')).mono ?_
  rintro e w1 ⟨rfl,m1,rfl⟩
  go_wp2_with fail
  go_ret
  exact ⟨rfl,belA⟩
 ·have hb:(ar == ar')=false:=by simp [he]
  have hE:eqT ar ar' rows rows'=false:=by unfold eqT;simp [he]
  rw [hE]
  have HE:=hid (And.intro he hE);clear he hE
  go_enter Try.func42,Try.ntmps42
  go_wp2_with fail
  go_ret
  exact ⟨rfl,belA⟩
end Go.Proofs.Ytfobmfngbfbfdaa
namespace Go.Proofs.Ytfobmfngbfbfdaa
set_option linter.unusedSimpArgs false
set_option linter.unusedVariables false
open Go.RowKit
theorem cset_same {w:World} {a:Addr} {v u:Value} (h:w.cell? a=some u):(w.setCell a v).cell? a=some v:=by
 apply World.cell?_setCell_same <;> assumption
theorem cset_other {w:World} {a b:Addr} {v:Value} (h:a ≠ b):(w.setCell a v).cell? b=w.cell? b:=by
 apply World.cell?_setCell_other <;> assumption
def CellM (v v':Value):Prop:=v'=v∨∃ x x',v=.int .i64 x∧v'=.int .i64 x'∧I64 x'
theorem CellM.trans {a b c:Value} (h:CellM a b) (k:CellM b c):CellM a c:=by
 rcases k with rfl | ⟨x,x',rfl,rfl,hx⟩
 ·exact h
 ·rcases h with h | ⟨y,y',rfl,_,_⟩
  ·exact .inr ⟨x,x',h.symm,rfl,hx⟩
  ·exact .inr ⟨y,x',rfl,rfl,hx⟩
structure Marked (lo hi:Nat) (w w':World):Prop where
 os:w'.os=w.os
 tape:w'.tape=w.tape
 output:w'.output=w.output
 size:w'.heap.size=w.heap.size
 out:∀ k,(k<lo∨hi≤k)→w'.heap[k]? = w.heap[k]?
 cell:∀ p v,w.cell? p=some v→∃ v',w'.cell? p=some v'∧CellM v v'
 frz:∀ p,w'.frozen? p=w.frozen? p
theorem Marked.refl (lo hi:Nat) (w:World):Marked lo hi w w:=⟨rfl,rfl,rfl,rfl,fun _ _=>rfl,fun _ v h=>⟨v,h,.inl rfl⟩,fun _=>rfl⟩
theorem Marked.trans {lo hi:Nat} {a b c:World} (h:Marked lo hi a b) (k:Marked lo hi b c):Marked lo hi a c :=
 ⟨k.os.trans h.os,k.tape.trans h.tape,k.output.trans h.output,k.size.trans h.size,fun i hi=>(k.out i hi).trans (h.out i hi),fun p v hp=>by
  obtain ⟨v',g1,g2⟩:=h.cell p v hp
  obtain ⟨v'',g3,g4⟩:=k.cell p v' g1
  exact ⟨v'',g3,g2.trans g4⟩,fun p=>(k.frz p).trans (h.frz p)⟩
theorem Marked.drewN {lo hi:Nat} {a b:World} (h:Marked lo hi a b) (m:Nat):Marked lo hi a (b.drewN m):=⟨h.os,h.tape,h.output,h.size,h.out,h.cell,h.frz⟩
theorem Marked.wide {lo hi lo' hi':Nat} {a b:World} (h:Marked lo hi a b) (h1:lo'≤lo) (h2:hi≤hi'):Marked lo' hi' a b:=⟨h.os,h.tape,h.output,h.size,fun k hk=>h.out k (by omega),h.cell,h.frz⟩
theorem Marked.keeps {lo hi lo' hi':Nat} {a b:World} (h:Marked lo hi a b) (hd:hi'≤lo∨hi≤lo'):Keeps lo' hi' a b:=fun k h1 h2=>h.out k (by omega)
theorem IntsA.marked {lo hi lo' hi':Nat} {w w':World} {a:Option Addr} {n c:Nat} {xs:List Int} (h:IntsA true lo hi w a n c xs) (hm:Marked lo' hi' w w'):∃ ys,IntsA true lo hi w' a n c ys:=by
 obtain ⟨h1,h2,h3,h4,h5,h6⟩:=h
 by_cases hn:0<n
 ·obtain ⟨b,off,ha,hl,hb,hc⟩:=h5 hn
  have each:∀ i,i<n→∃ y:Int,I64 y∧w'.cell? ⟨b,off+i,none⟩=some (.int .i64 y):=by
   intro i hi
   obtain ⟨v',g1,g2⟩:=hm.cell _ _ (hc i hi).1
   rcases g2 with rfl | ⟨_,y,_,rfl,hy⟩
   ·exact ⟨ix xs i,by rw [ix_lt (by omega)];exact h4 _ (List.getElem_mem _),g1⟩
   ·exact ⟨y,hy,g1⟩
  obtain ⟨y,hy⟩:=Deep.choose_lt each
  refine ⟨(List.range n).map y,by simp,h2,h3,?_,fun _=>⟨b,off,ha,hl,hb,fun i hi=>⟨?_,fun hf=>by rw [hm.frz];exact (hc i hi).2 hf⟩⟩,h6⟩
  ·intro z hz
   obtain ⟨i,hi,rfl⟩:=List.mem_map.1 hz
   exact (hy i (by simpa using hi)).1
  ·rw [(hy i hi).2];simp [ix,hi]
 ·exact ⟨xs,h1,h2,h3,h4,fun h=>absurd h hn,h6⟩
def marks (k:Int):Nat→List Int
 | 0=>[]
 | n+1=>marks k n ++ [k+n]
theorem CellM.slice {a:Option Addr} {n c:Nat} {v:Value} (h:CellM (.slice a n c) v):v=.slice a n c:=by
 rcases h with h | ⟨_,_,h,_⟩
 ·exact h
 ·cases h
end Go.Proofs.Ytfobmfngbfbfdaa
namespace Go.Proofs.Ytfobmfngbfbfdaa
set_option linter.unusedSimpArgs false
set_option linter.unusedVariables false
open Go.RowKit
structure MarkedG (lo hi:Nat) (w w':World):Prop where
 os:w'.os=w.os
 tape:w'.tape=w.tape
 output:w'.output=w.output
 size:w.heap.size≤w'.heap.size
 out:∀ k,k<w.heap.size→(k<lo∨hi≤k)→w'.heap[k]? = w.heap[k]?
 cell:∀ p v,w.cell? p=some v→∃ v',w'.cell? p=some v'∧CellM v v'
 frz:∀ p,w.cell? p ≠ none→w'.frozen? p=w.frozen? p
theorem cell_lt {w:World} {p:Addr} (h:w.cell? p ≠ none):p.block<w.heap.size:=by
 cases hc:w.cell? p with
 | none=>exact absurd hc h
 | some v=>exact World.block_lt_of_cell? w _ hc
theorem MarkedG.of_below {lo hi:Nat} {w w':World} (h:Below w.heap.size w w'):MarkedG lo hi w w':=by
 refine ⟨h.os,h.tape,h.output,h.size,fun k hk _=>h.block k hk,fun p v hp=>⟨v,?_,.inl rfl⟩,fun p hp=>?_⟩
 ·rw [h.cell (World.block_lt_of_cell? w _ hp)];exact hp
 ·rw [h.frozen (cell_lt hp)]
theorem MarkedG.trans {lo hi:Nat} {a b c:World} (h:MarkedG lo hi a b) (k:MarkedG lo hi b c):MarkedG lo hi a c:=by
 have hs:=h.size
 refine ⟨k.os.trans h.os,k.tape.trans h.tape,k.output.trans h.output,Nat.le_trans h.size k.size,fun i h1 h2=>(k.out i (by omega) h2).trans (h.out i h1 h2),fun p v hp=>?_,fun p hp=>?_⟩
 ·obtain ⟨v',g1,g2⟩:=h.cell p v hp
  obtain ⟨v'',g3,g4⟩:=k.cell p v' g1
  exact ⟨v'',g3,g2.trans g4⟩
 ·rw [k.frz p,h.frz p hp]
  cases hc:a.cell? p with
  | none=>exact absurd hc hp
  | some v=>obtain ⟨v',g1,_⟩:=h.cell p v hc;rw [g1];exact fun h=>(by cases h)
theorem MarkedG.drewN {lo hi:Nat} {a b:World} (h:MarkedG lo hi a b) (m:Nat):MarkedG lo hi a (b.drewN m):=h.trans (.of_below (below_drewN (Below.refl _ _) m))
theorem MarkedG.keeps {lo hi lo' hi':Nat} {a b:World} (h:MarkedG lo hi a b) (hd:hi'≤lo∨hi≤lo') (hs:hi'≤a.heap.size):Keeps lo' hi' a b:=fun k h1 h2=>h.out k (by omega) (by omega)
theorem MarkedG.wide {lo hi lo' hi':Nat} {a b:World} (h:MarkedG lo hi a b) (h1:lo'≤lo) (h2:hi≤hi'):MarkedG lo' hi' a b:=⟨h.os,h.tape,h.output,h.size,fun k hk hk'=>h.out k hk (by omega),h.cell,h.frz⟩
def TrieA (fz:Bool) (lo hi:Nat) (w:World) (ar:Int) (a:Option Addr) (n c:Nat) (rows:List (List Int)):Prop:=I64 ar∧RowsA fz lo hi w a n c rows
theorem beInts {fz:Bool} {lo hi B:Nat} {w w':World} {a:Option Addr} {n c:Nat} {xs:List Int} (h:IntsA fz lo hi w a n c xs) (hb:Below B w w') (hh:hi≤B):IntsA fz lo hi w' a n c xs:=h.be hb hh
theorem kpInts {fz:Bool} {lo hi:Nat} {w w':World} {a:Option Addr} {n c:Nat} {xs:List Int} (h:IntsA fz lo hi w a n c xs) (hb:Keeps lo hi w w'):IntsA fz lo hi w' a n c xs:=h.keep hb
theorem beTrie {fz:Bool} {lo hi B:Nat} {w w':World} {ar:Int} {a:Option Addr} {n c:Nat} {rows:List (List Int)} (h:TrieA fz lo hi w ar a n c rows) (hb:Below B w w') (hh:hi≤B):TrieA fz lo hi w' ar a n c rows:=⟨h.1,SlA.be intsOK h.2 hb hh⟩
theorem kpTrie {fz:Bool} {lo hi:Nat} {w w':World} {ar:Int} {a:Option Addr} {n c:Nat} {rows:List (List Int)} (h:TrieA fz lo hi w ar a n c rows) (hb:Keeps lo hi w w'):TrieA fz lo hi w' ar a n c rows:=⟨h.1,SlA.keep intsOK h.2 hb⟩
end Go.Proofs.Ytfobmfngbfbfdaa
namespace Go.Proofs.Ytfobmfngbfbfdaa
set_option linter.unusedSimpArgs false
set_option linter.unusedVariables false
open Go.RowKit
abbrev iterV (ar:Int) (a:Option Addr) (n:Nat) (c:Nat) (la:Option Addr) (ln:Nat) (lc:Nat) (ga:Option Addr) (gn:Nat) (gc:Nat) (pa:Option Addr) (pn:Nat) (pc:Nat):Value:=.agg #[.int .i64 ar,.slice a n c,.slice la ln lc,.slice ga gn gc,.slice pa pn pc]
def IterA (fz:Bool) (lo hi:Nat) (w:World) (ar:Int) (a:Option Addr) (n:Nat) (c:Nat) (rows:List (List Int)) (la:Option Addr) (ln:Nat) (lc:Nat) (lw:List Int) (ga:Option Addr) (gn:Nat) (gc:Nat) (gh:List Int) (pa:Option Addr) (pn:Nat) (pc:Nat) (ps:List Int):Prop:=TrieA fz (lo) hi w ar a n c rows∧IntsA fz (lo) hi w la ln lc lw∧IntsA fz (lo) hi w ga gn gc gh∧IntsA fz (lo) hi w pa pn pc ps
theorem beIter {fz:Bool} {lo hi B:Nat} {w w':World} {ar:Int} {a:Option Addr} {n:Nat} {c:Nat} {rows:List (List Int)} {la:Option Addr} {ln:Nat} {lc:Nat} {lw:List Int} {ga:Option Addr} {gn:Nat} {gc:Nat} {gh:List Int} {pa:Option Addr} {pn:Nat} {pc:Nat} {ps:List Int} (h:IterA fz lo hi w ar a n c rows la ln lc lw ga gn gc gh pa pn pc ps) (hb:Below B w w') (hh:hi≤B):IterA fz lo hi w' ar a n c rows la ln lc lw ga gn gc gh pa pn pc ps:=⟨beTrie h.1 hb hh,beInts h.2.1 hb hh,beInts h.2.2.1 hb hh,beInts h.2.2.2 hb hh⟩
theorem kpIter {fz:Bool} {lo hi:Nat} {w w':World} {ar:Int} {a:Option Addr} {n:Nat} {c:Nat} {rows:List (List Int)} {la:Option Addr} {ln:Nat} {lc:Nat} {lw:List Int} {ga:Option Addr} {gn:Nat} {gc:Nat} {gh:List Int} {pa:Option Addr} {pn:Nat} {pc:Nat} {ps:List Int} (h:IterA fz lo hi w ar a n c rows la ln lc lw ga gn gc gh pa pn pc ps) (hb:Keeps lo hi w w'):IterA fz lo hi w' ar a n c rows la ln lc lw ga gn gc gh pa pn pc ps:=⟨kpTrie h.1 hb,kpInts h.2.1 hb,kpInts h.2.2.1 hb,kpInts h.2.2.2 hb⟩
def szIter (rows:List (List Int)) (lw:List Int) (gh:List Int) (ps:List Int):Nat:=rowsSz rows+lw.length+gh.length+ps.length
end Go.Proofs.Ytfobmfngbfbfdaa
namespace Go.Proofs.Ytfobmfngbfbfdaa
set_option linter.unusedSimpArgs false
set_option linter.unusedVariables false
open Go.RowKit
set_option maxHeartbeats 1600000 in
theorem specEqRel {fz fz':Bool} {lo hi lo' hi':Nat} (ar ar':Int) (a a':Option Addr) (n c n' c':Nat) (rows rows':List (List Int)) (w:World) (hI:RowsA fz lo hi w a n c rows) (hh:hi≤w.heap.size) (hJ:RowsA fz' lo' hi' w a' n' c' rows') (hh':hi'≤w.heap.size) :
 Calls Try.prog 31 #[trieV ar a n c,trieV ar' a' n' c'] w (Leaves w (.bool (eqT ar ar' rows rows'))):=by
 have hl:=hI.len
 have hs:=hI.small
 have hl':=hJ.len
 have hs':=hJ.small
 have HL:=hid (And.intro hl hl');clear hl hl'
 by_cases he:ar=ar'
 ·have hb:(ar != ar')=false:=by simp [he]
  have hE:eqT ar ar' rows rows'=eqLL rows rows':=by unfold eqT eqLL;simp [he]
  rw [hE]
  have HE:=hid (And.intro he hE);clear he hE
  by_cases hn:n=n'
  ·subst hn
   have hbn:((n:Int) != (n:Int))=false:=by simp
   obtain ⟨W,hW⟩:∃ W,W=(w.alloc (.cells #[.int .i64 ar,.slice a n c] 49)).alloc (.cells #[.int .i64 ar',.slice a' n c'] 49):=⟨_,rfl⟩
   have hBW:Below w.heap.size w W:=by rw [hW];exact belA
   have c0:W.cell? ⟨w.heap.size,0,none⟩=some (.int .i64 ar):=by rw [hW];first | (go_simp;done) | (simp [World.cell?];done)
   have c1:W.cell? ⟨w.heap.size,1,none⟩=some (.slice a n c):=by rw [hW];first | (go_simp;done) | (simp [World.cell?];done)
   have d0:W.cell? ⟨w.heap.size+1,0,none⟩=some (.int .i64 ar'):=by rw [hW];first | (go_simp;done) | (simp [World.cell?];done)
   have d1:W.cell? ⟨w.heap.size+1,1,none⟩=some (.slice a' n c'):=by rw [hW];first | (go_simp;done) | (simp [World.cell?];done)
   have hIW:=hI.be intsOK hBW hh
   have hJW:=hJ.be intsOK hBW hh'
   have HW:=hid (And.intro hW (And.intro hBW (And.intro (And.intro hI hJ) (And.intro hIW hJW))));clear hW hBW hI hJ hIW hJW
   go_enter Try.func31,Try.ntmps31
   go_upto_region 1 with fail
   rw [← HW.out.1]
   go_wp2_with fail
   go_loopw [5] (fun i wr=>∃ k:Nat,i=.int .i64 k∧k≤n∧Hid (∀ j,j<k→rx rows j=rx rows' j)∧Hid (∃ m,wr=W.drewN m)) (fun i _=>n - (intOf i).toNat)
   case atStart=>exact ⟨0,rfl,by omega,hid (fun i hi=>by omega),hid ⟨0,rfl⟩⟩
   case round =>
    obtain ⟨k,rfl,hk,HT,HD⟩:=hrel
    have hbr:∀ q,Below w.heap.size w (wr.drewN q):=by obtain ⟨m,rfl⟩:=HD.out;intro q;exact below_drewN (below_drewN HW.out.2.1 m) q
    have HBR:=hid hbr;clear hbr
    have c1r:wr.cell? ⟨w.heap.size,1,none⟩=some (.slice a n c):=by obtain ⟨m,rfl⟩:=HD.out;exact c1
    have d1r:wr.cell? ⟨w.heap.size+1,1,none⟩=some (.slice a' n c'):=by obtain ⟨m,rfl⟩:=HD.out;exact d1
    by_cases hlt:k<n
    ·have hIr:RowsA fz lo hi wr a n c rows:=SlA.keep intsOK HW.out.2.2.2.1 (keeps_dr lo hi HD.out)
     have hJr:RowsA fz' lo' hi' wr a' n c' rows':=SlA.keep intsOK HW.out.2.2.2.2 (keeps_dr lo' hi' HD.out)
     obtain ⟨b,off,rfl⟩:=RowsA.some hIr (by omega)
     obtain ⟨_,_,ra,rn,rc,hc,hr,_⟩:=RowsA.at hIr hlt
     obtain ⟨b',off',rfl⟩:=RowsA.some hJr (by omega)
     obtain ⟨_,_,ra',rn',rc',hc',hr',_⟩:=RowsA.at hJr hlt
     obtain ⟨d,hd⟩:∃ d,cmpR (rx rows k) (rx rows' k)=d:=⟨_,rfl⟩
     have HC:=hid (fun m=>by have:=specCmpR ra ra' rn rc rn' rc' _ _ (wr.drewN m) (hr.drewN m) (hr'.drewN m);rwa [hd] at this)
     have HI:=hid (And.intro hd (And.intro hIr hJr));clear hIr hJr hr hr' hd
     by_cases hd0:d=0
     ·have hbd:(d != 0)=false:=by simp [hd0]
      have HT2:Hid (∀ j,j<k+1→rx rows j=rx rows' j):=hid (fun i hi=>by
       by_cases e:i=k
       ·subst e;exact cmpR_z7 (by rw [HI.out.1];exact hd0)
       ·exact HT.out i (by omega))
      have H0:=hid hd0;clear hd0
      go_wp2_with fail
      go_quiet ((go_at_call 33;exact (Calls.quiet_of (HC.out _))))
      go_wp2_with fail
      go_roundw
      case rel=>exact ⟨k+1,by go_num,by omega,HT2,hid (by first | exact HD.out | exact dr_more HD.out _ | (rw [dd];exact dr_more HD.out _) | (rw [dd,dd];exact dr_more HD.out _) | exact ⟨_,rfl⟩ | exact ⟨_,dd⟩)⟩
      case measure=>simp [intOf];omega
     ·have hbd:(d != 0)=true:=by simp [hd0]
      have HF:=hid (eqLL_ne (xs:=rows) (ys:=rows') (i:=k) (fun e=>hd0 (by rw [← HI.out.1,e];exact cmpR_s7 _)))
      have H0:=hid hd0;clear hd0
      go_wp2_with fail
      go_quiet ((go_at_call 33;exact (Calls.quiet_of (HC.out _))))
      go_wp2_with fail
      go_ret
      exact ⟨by rw [HF.out];rfl,HBR.out _⟩
    ·have HF:=hid (eqLL_true (xs:=rows) (ys:=rows') (by rw [HL.out.1,HL.out.2]) (by rw [HL.out.1];intro i hi;exact HT.out i (by omega)))
     go_wp2_with fail
     go_ret
     exact ⟨by rw [HF.out];rfl,HBR.out 0⟩
  ·have hbn:((n:Int) != (n':Int))=true:=by rw [bne_iff_ne];omega
   have HF:=hid (eqLL_len (xs:=rows) (ys:=rows') (by rw [HL.out.1,HL.out.2];exact hn))
   have HN:=hid hn;clear hn
   go_enter Try.func31,Try.ntmps31
   go_wp2_with fail
   go_ret
   exact ⟨by rw [HF.out];rfl,belA⟩
 ·have hb:(ar != ar')=true:=by simp [he]
  have hE:eqT ar ar' rows rows'=false:=by unfold eqT;simp [he]
  rw [hE]
  have HE:=hid (And.intro he hE);clear he hE
  go_enter Try.func31,Try.ntmps31
  go_wp2_with fail
  go_ret
  exact ⟨rfl,belA⟩
end Go.Proofs.Ytfobmfngbfbfdaa
namespace Go.Proofs.Ytfobmfngbfbfdaa
set_option linter.unusedSimpArgs false
set_option linter.unusedVariables false
open Go.RowKit
noncomputable def eqIt (ar ar':Int) (rows rows':List (List Int)) (lw lw' gh gh' ps ps':List Int):Bool:=eqT ar ar' rows rows' && eqL lw lw' && eqL gh gh' && eqL ps ps'
set_option maxRecDepth 100000 in
set_option maxHeartbeats 6400000 in
theorem implEqIt {fz fz':Bool} {lo hi lo' hi':Nat} (ar:Int) (a:Option Addr) (n:Nat) (c:Nat) (rows:List (List Int)) (la:Option Addr) (ln:Nat) (lc:Nat) (lw:List Int) (ga:Option Addr) (gn:Nat) (gc:Nat) (gh:List Int) (pa:Option Addr) (pn:Nat) (pc:Nat) (ps:List Int) (ar':Int) (a':Option Addr) (n':Nat) (c':Nat) (rows':List (List Int)) (la':Option Addr) (ln':Nat) (lc':Nat) (lw':List Int) (ga':Option Addr) (gn':Nat) (gc':Nat) (gh':List Int) (pa':Option Addr) (pn':Nat) (pc':Nat) (ps':List Int) (w:World)
 (hI:IterA fz lo hi w ar a n c rows la ln lc lw ga gn gc gh pa pn pc ps) (hh:hi≤w.heap.size) (hJ:IterA fz' lo' hi' w ar' a' n' c' rows' la' ln' lc' lw' ga' gn' gc' gh' pa' pn' pc' ps') (hh':hi'≤w.heap.size) :
 Calls Try.prog 21 #[iterV ar a n c la ln lc ga gn gc pa pn pc,iterV ar' a' n' c' la' ln' lc' ga' gn' gc' pa' pn' pc'] w (Leaves w (.bool (eqIt ar ar' rows rows' lw lw' gh gh' ps ps'))):=by
 obtain ⟨W,hW⟩:∃ W,W=(w.alloc (.cells #[.int .i64 ar,.slice a n c,.slice la ln lc,.slice ga gn gc,.slice pa pn pc] 29)).alloc (.cells #[.int .i64 ar',.slice a' n' c',.slice la' ln' lc',.slice ga' gn' gc',.slice pa' pn' pc'] 29):=⟨_,rfl⟩
 have hBW:Below w.heap.size w W:=by rw [hW];exact belA
 have hz:w.heap.size+1<W.heap.size:=by rw [hW];simp
 have c0:∀ x:Later W.heap.size W,x.w.cell? ⟨w.heap.size,0,none⟩=some (.int .i64 ar):=fun x=>x.cell (by rw [hW];first | (go_simp;done) | (simp [World.cell?];done)) (by omega)
 have c1:∀ x:Later W.heap.size W,x.w.cell? ⟨w.heap.size,1,none⟩=some (.slice a n c):=fun x=>x.cell (by rw [hW];first | (go_simp;done) | (simp [World.cell?];done)) (by omega)
 have c2:∀ x:Later W.heap.size W,x.w.cell? ⟨w.heap.size,2,none⟩=some (.slice la ln lc):=fun x=>x.cell (by rw [hW];first | (go_simp;done) | (simp [World.cell?];done)) (by omega)
 have c3:∀ x:Later W.heap.size W,x.w.cell? ⟨w.heap.size,3,none⟩=some (.slice ga gn gc):=fun x=>x.cell (by rw [hW];first | (go_simp;done) | (simp [World.cell?];done)) (by omega)
 have c4:∀ x:Later W.heap.size W,x.w.cell? ⟨w.heap.size,4,none⟩=some (.slice pa pn pc):=fun x=>x.cell (by rw [hW];first | (go_simp;done) | (simp [World.cell?];done)) (by omega)
 have d0:∀ x:Later W.heap.size W,x.w.cell? ⟨w.heap.size+1,0,none⟩=some (.int .i64 ar'):=fun x=>x.cell (by rw [hW];first | (go_simp;done) | (simp [World.cell?];done)) (by omega)
 have d1:∀ x:Later W.heap.size W,x.w.cell? ⟨w.heap.size+1,1,none⟩=some (.slice a' n' c'):=fun x=>x.cell (by rw [hW];first | (go_simp;done) | (simp [World.cell?];done)) (by omega)
 have d2:∀ x:Later W.heap.size W,x.w.cell? ⟨w.heap.size+1,2,none⟩=some (.slice la' ln' lc'):=fun x=>x.cell (by rw [hW];first | (go_simp;done) | (simp [World.cell?];done)) (by omega)
 have d3:∀ x:Later W.heap.size W,x.w.cell? ⟨w.heap.size+1,3,none⟩=some (.slice ga' gn' gc'):=fun x=>x.cell (by rw [hW];first | (go_simp;done) | (simp [World.cell?];done)) (by omega)
 have d4:∀ x:Later W.heap.size W,x.w.cell? ⟨w.heap.size+1,4,none⟩=some (.slice pa' pn' pc'):=fun x=>x.cell (by rw [hW];first | (go_simp;done) | (simp [World.cell?];done)) (by omega)
 have hIW:=beIter hI hBW hh
 have hJW:=beIter hJ hBW hh'
 have hsz:∀ x:Later W.heap.size W,hi≤x.w.heap.size∧hi'≤x.w.heap.size:=fun x=>by have:=x.size;omega
 have hIX:=fun x:Later W.heap.size W=>beIter hIW x.be (by omega)
 have hJX:=fun x:Later W.heap.size W=>beIter hJW x.be (by omega)
 obtain ⟨e1,he1⟩:∃ e,eqT ar ar' rows rows'=e:=⟨_,rfl⟩
 obtain ⟨e2,he2⟩:∃ e,eqL lw lw'=e:=⟨_,rfl⟩
 obtain ⟨e3,he3⟩:∃ e,eqL gh gh'=e:=⟨_,rfl⟩
 obtain ⟨e4,he4⟩:∃ e,eqL ps ps'=e:=⟨_,rfl⟩
 have HR:=hid (fun (x:Later W.heap.size W) (r:Int) (p:Option Addr) (q s:Nat)=>later_of x (Nat.le_refl _) (implAsRel r p q s x.w))
 have HC1:=hid (fun x:Later W.heap.size W=>later_of x (Nat.le_refl _) (by have:=implEqRel ar ar' a a' n c n' c' rows rows' x.w (hIX x).1.2 (hsz x).1 (hJX x).1.2 (hsz x).2;rwa [he1] at this))
 have HC2:=hid (fun x:Later W.heap.size W=>later_gives x (Nat.le_refl _) (by have:=implSameInts la la' ln lc ln' lc' lw lw' x.w (hIX x).2.1 (hJX x).2.1;rwa [he2] at this))
 have HC3:=hid (fun x:Later W.heap.size W=>later_gives x (Nat.le_refl _) (by have:=implSameInts ga ga' gn gc gn' gc' gh gh' x.w (hIX x).2.2.1 (hJX x).2.2.1;rwa [he3] at this))
 have HC4:=hid (fun x:Later W.heap.size W=>later_gives x (Nat.le_refl _) (by have:=implSameInts pa pa' pn pc pn' pc' ps ps' x.w (hIX x).2.2.2 (hJX x).2.2.2;rwa [he4] at this))
 have HF:Hid (eqIt ar ar' rows rows' lw lw' gh gh' ps ps'=(e1 && e2 && e3 && e4)):=hid (by unfold eqIt;rw [he1,he2,he3,he4])
 have HW:=hid (And.intro hW (And.intro hBW (And.intro he1 (And.intro he2 (And.intro he3 he4)))));clear hW hBW he1 he2 he3 he4 hIW hJW hIX hJX hsz hI hJ
 cases e1 with
 | false =>
  go_enter Try.func21,Try.ntmps21
  go_upto_region 1 with fail
  rw [← HW.out.1]
  refine wp_region_later (B:=W.heap.size) (w0:=W) (by kernel_rfl) (by kernel_rfl) (Below.refl _ _) ?_
  repeat (any_goals (first | go_big_quiet_step ((first | (go_at_call 43;exact HR.out _ _ _ _ _) | (go_at_call 42;exact HC1.out _) | (go_at_call 44;with_reducible first | exact HC2.out _ | exact HC3.out _ | exact HC4.out _))) | quiet_step ((first | (go_at_call 43;exact HR.out _ _ _ _ _) | (go_at_call 42;exact HC1.out _) | (go_at_call 44;with_reducible first | exact HC2.out _ | exact HC3.out _ | exact HC4.out _)))))
  refine wpQuiet_nil ?_
  intro _ hw'
  obtain ⟨nq,hw''⟩:=hw'
  subst hw''
  have HQ:=hid nq.be
  generalize nq.w=wq at *
  go_wp2_with fail
  go_ret
  exact ⟨by rw [HF.out];rfl,HW.out.2.1.trans (HQ.out.mono (by omega))⟩
 | true =>
  cases e2 with
  | false =>
   go_enter Try.func21,Try.ntmps21
   go_upto_region 1 with fail
   rw [← HW.out.1]
   refine wp_region_later (B:=W.heap.size) (w0:=W) (by kernel_rfl) (by kernel_rfl) (Below.refl _ _) ?_
   repeat (any_goals (first | go_big_quiet_step ((first | (go_at_call 43;exact HR.out _ _ _ _ _) | (go_at_call 42;exact HC1.out _) | (go_at_call 44;with_reducible first | exact HC2.out _ | exact HC3.out _ | exact HC4.out _))) | quiet_step ((first | (go_at_call 43;exact HR.out _ _ _ _ _) | (go_at_call 42;exact HC1.out _) | (go_at_call 44;with_reducible first | exact HC2.out _ | exact HC3.out _ | exact HC4.out _)))))
   refine wpQuiet_nil ?_
   intro _ hw'
   obtain ⟨nq,hw''⟩:=hw'
   subst hw''
   have HQ:=hid nq.be
   generalize nq.w=wq at *
   go_wp2_with fail
   go_ret
   exact ⟨by rw [HF.out];rfl,HW.out.2.1.trans (HQ.out.mono (by omega))⟩
  | true =>
   cases e3 with
   | false =>
    go_enter Try.func21,Try.ntmps21
    go_upto_region 1 with fail
    rw [← HW.out.1]
    refine wp_region_later (B:=W.heap.size) (w0:=W) (by kernel_rfl) (by kernel_rfl) (Below.refl _ _) ?_
    repeat (any_goals (first | go_big_quiet_step ((first | (go_at_call 43;exact HR.out _ _ _ _ _) | (go_at_call 42;exact HC1.out _) | (go_at_call 44;with_reducible first | exact HC2.out _ | exact HC3.out _ | exact HC4.out _))) | quiet_step ((first | (go_at_call 43;exact HR.out _ _ _ _ _) | (go_at_call 42;exact HC1.out _) | (go_at_call 44;with_reducible first | exact HC2.out _ | exact HC3.out _ | exact HC4.out _)))))
    refine wpQuiet_nil ?_
    intro _ hw'
    obtain ⟨nq,hw''⟩:=hw'
    subst hw''
    have HQ:=hid nq.be
    generalize nq.w=wq at *
    go_wp2_with fail
    go_ret
    exact ⟨by rw [HF.out];rfl,HW.out.2.1.trans (HQ.out.mono (by omega))⟩
   | true =>
    cases e4 with
    | false =>
     go_enter Try.func21,Try.ntmps21
     go_upto_region 1 with fail
     rw [← HW.out.1]
     refine wp_region_later (B:=W.heap.size) (w0:=W) (by kernel_rfl) (by kernel_rfl) (Below.refl _ _) ?_
     repeat (any_goals (first | go_big_quiet_step ((first | (go_at_call 43;exact HR.out _ _ _ _ _) | (go_at_call 42;exact HC1.out _) | (go_at_call 44;with_reducible first | exact HC2.out _ | exact HC3.out _ | exact HC4.out _))) | quiet_step ((first | (go_at_call 43;exact HR.out _ _ _ _ _) | (go_at_call 42;exact HC1.out _) | (go_at_call 44;with_reducible first | exact HC2.out _ | exact HC3.out _ | exact HC4.out _)))))
     refine wpQuiet_nil ?_
     intro _ hw'
     obtain ⟨nq,hw''⟩:=hw'
     subst hw''
     have HQ:=hid nq.be
     generalize nq.w=wq at *
     go_wp2_with fail
     go_ret
     exact ⟨by rw [HF.out];rfl,HW.out.2.1.trans (HQ.out.mono (by omega))⟩
    | true =>
     go_enter Try.func21,Try.ntmps21
     go_upto_region 1 with fail
     rw [← HW.out.1]
     refine wp_region_later (B:=W.heap.size) (w0:=W) (by kernel_rfl) (by kernel_rfl) (Below.refl _ _) ?_
     repeat (any_goals (first | go_big_quiet_step ((first | (go_at_call 43;exact HR.out _ _ _ _ _) | (go_at_call 42;exact HC1.out _) | (go_at_call 44;with_reducible first | exact HC2.out _ | exact HC3.out _ | exact HC4.out _))) | quiet_step ((first | (go_at_call 43;exact HR.out _ _ _ _ _) | (go_at_call 42;exact HC1.out _) | (go_at_call 44;with_reducible first | exact HC2.out _ | exact HC3.out _ | exact HC4.out _)))))
     refine wpQuiet_nil ?_
     intro _ hw'
     obtain ⟨nq,hw''⟩:=hw'
     subst hw''
     have HQ:=hid nq.be
     generalize nq.w=wq at *
     go_wp2_with fail
     go_ret
     exact ⟨by rw [HF.out];rfl,HW.out.2.1.trans (HQ.out.mono (by omega))⟩
set_option maxRecDepth 100000 in
set_option maxHeartbeats 6400000 in
theorem specEqIt {fz fz':Bool} {lo hi lo' hi':Nat} (ar:Int) (a:Option Addr) (n:Nat) (c:Nat) (rows:List (List Int)) (la:Option Addr) (ln:Nat) (lc:Nat) (lw:List Int) (ga:Option Addr) (gn:Nat) (gc:Nat) (gh:List Int) (pa:Option Addr) (pn:Nat) (pc:Nat) (ps:List Int) (ar':Int) (a':Option Addr) (n':Nat) (c':Nat) (rows':List (List Int)) (la':Option Addr) (ln':Nat) (lc':Nat) (lw':List Int) (ga':Option Addr) (gn':Nat) (gc':Nat) (gh':List Int) (pa':Option Addr) (pn':Nat) (pc':Nat) (ps':List Int) (w:World)
 (hI:IterA fz lo hi w ar a n c rows la ln lc lw ga gn gc gh pa pn pc ps) (hh:hi≤w.heap.size) (hJ:IterA fz' lo' hi' w ar' a' n' c' rows' la' ln' lc' lw' ga' gn' gc' gh' pa' pn' pc' ps') (hh':hi'≤w.heap.size) :
 Calls Try.prog 9 #[iterV ar a n c la ln lc ga gn gc pa pn pc,iterV ar' a' n' c' la' ln' lc' ga' gn' gc' pa' pn' pc'] w (Leaves w (.bool (eqIt ar ar' rows rows' lw lw' gh gh' ps ps'))):=by
 obtain ⟨W,hW⟩:∃ W,W=(w.alloc (.cells #[.int .i64 ar,.slice a n c,.slice la ln lc,.slice ga gn gc,.slice pa pn pc] 29)).alloc (.cells #[.int .i64 ar',.slice a' n' c',.slice la' ln' lc',.slice ga' gn' gc',.slice pa' pn' pc'] 29):=⟨_,rfl⟩
 have hBW:Below w.heap.size w W:=by rw [hW];exact belA
 have hz:w.heap.size+1<W.heap.size:=by rw [hW];simp
 have c0:∀ x:Later W.heap.size W,x.w.cell? ⟨w.heap.size,0,none⟩=some (.int .i64 ar):=fun x=>x.cell (by rw [hW];first | (go_simp;done) | (simp [World.cell?];done)) (by omega)
 have c1:∀ x:Later W.heap.size W,x.w.cell? ⟨w.heap.size,1,none⟩=some (.slice a n c):=fun x=>x.cell (by rw [hW];first | (go_simp;done) | (simp [World.cell?];done)) (by omega)
 have c2:∀ x:Later W.heap.size W,x.w.cell? ⟨w.heap.size,2,none⟩=some (.slice la ln lc):=fun x=>x.cell (by rw [hW];first | (go_simp;done) | (simp [World.cell?];done)) (by omega)
 have c3:∀ x:Later W.heap.size W,x.w.cell? ⟨w.heap.size,3,none⟩=some (.slice ga gn gc):=fun x=>x.cell (by rw [hW];first | (go_simp;done) | (simp [World.cell?];done)) (by omega)
 have c4:∀ x:Later W.heap.size W,x.w.cell? ⟨w.heap.size,4,none⟩=some (.slice pa pn pc):=fun x=>x.cell (by rw [hW];first | (go_simp;done) | (simp [World.cell?];done)) (by omega)
 have d0:∀ x:Later W.heap.size W,x.w.cell? ⟨w.heap.size+1,0,none⟩=some (.int .i64 ar'):=fun x=>x.cell (by rw [hW];first | (go_simp;done) | (simp [World.cell?];done)) (by omega)
 have d1:∀ x:Later W.heap.size W,x.w.cell? ⟨w.heap.size+1,1,none⟩=some (.slice a' n' c'):=fun x=>x.cell (by rw [hW];first | (go_simp;done) | (simp [World.cell?];done)) (by omega)
 have d2:∀ x:Later W.heap.size W,x.w.cell? ⟨w.heap.size+1,2,none⟩=some (.slice la' ln' lc'):=fun x=>x.cell (by rw [hW];first | (go_simp;done) | (simp [World.cell?];done)) (by omega)
 have d3:∀ x:Later W.heap.size W,x.w.cell? ⟨w.heap.size+1,3,none⟩=some (.slice ga' gn' gc'):=fun x=>x.cell (by rw [hW];first | (go_simp;done) | (simp [World.cell?];done)) (by omega)
 have d4:∀ x:Later W.heap.size W,x.w.cell? ⟨w.heap.size+1,4,none⟩=some (.slice pa' pn' pc'):=fun x=>x.cell (by rw [hW];first | (go_simp;done) | (simp [World.cell?];done)) (by omega)
 have hIW:=beIter hI hBW hh
 have hJW:=beIter hJ hBW hh'
 have hsz:∀ x:Later W.heap.size W,hi≤x.w.heap.size∧hi'≤x.w.heap.size:=fun x=>by have:=x.size;omega
 have hIX:=fun x:Later W.heap.size W=>beIter hIW x.be (by omega)
 have hJX:=fun x:Later W.heap.size W=>beIter hJW x.be (by omega)
 obtain ⟨e1,he1⟩:∃ e,eqT ar ar' rows rows'=e:=⟨_,rfl⟩
 obtain ⟨e2,he2⟩:∃ e,eqL lw lw'=e:=⟨_,rfl⟩
 obtain ⟨e3,he3⟩:∃ e,eqL gh gh'=e:=⟨_,rfl⟩
 obtain ⟨e4,he4⟩:∃ e,eqL ps ps'=e:=⟨_,rfl⟩
 have HR:=hid (fun (x:Later W.heap.size W) (r:Int) (p:Option Addr) (q s:Nat)=>later_of x (Nat.le_refl _) (specAsRel r p q s x.w))
 have HC1:=hid (fun x:Later W.heap.size W=>later_of x (Nat.le_refl _) (by have:=specEqRel ar ar' a a' n c n' c' rows rows' x.w (hIX x).1.2 (hsz x).1 (hJX x).1.2 (hsz x).2;rwa [he1] at this))
 obtain ⟨d2,hd2⟩:∃ d,cmpR lw lw'=d:=⟨_,rfl⟩
 have hdb2:(d2 == 0)=e2:=by rw [← hd2,cmpR_eqL];exact he2
 have HC2:=hid (fun x:Later W.heap.size W=>later_gives x (Nat.le_refl _) (by have:=specCmpR la la' ln lc ln' lc' lw lw' x.w (hIX x).2.1 (hJX x).2.1;rwa [hd2] at this))
 obtain ⟨d3,hd3⟩:∃ d,cmpR gh gh'=d:=⟨_,rfl⟩
 have hdb3:(d3 == 0)=e3:=by rw [← hd3,cmpR_eqL];exact he3
 have HC3:=hid (fun x:Later W.heap.size W=>later_gives x (Nat.le_refl _) (by have:=specCmpR ga ga' gn gc gn' gc' gh gh' x.w (hIX x).2.2.1 (hJX x).2.2.1;rwa [hd3] at this))
 obtain ⟨d4,hd4⟩:∃ d,cmpR ps ps'=d:=⟨_,rfl⟩
 have hdb4:(d4 == 0)=e4:=by rw [← hd4,cmpR_eqL];exact he4
 have HC4:=hid (fun x:Later W.heap.size W=>later_gives x (Nat.le_refl _) (by have:=specCmpR pa pa' pn pc pn' pc' ps ps' x.w (hIX x).2.2.2 (hJX x).2.2.2;rwa [hd4] at this))
 have HF:Hid (eqIt ar ar' rows rows' lw lw' gh gh' ps ps'=(e1 && e2 && e3 && e4)):=hid (by unfold eqIt;rw [he1,he2,he3,he4])
 have HDD:=hid (And.intro hd2 (And.intro hd3 hd4));clear hd2 hd3 hd4
 have HW:=hid (And.intro hW (And.intro hBW (And.intro he1 (And.intro he2 (And.intro he3 he4)))));clear hW hBW he1 he2 he3 he4 hIW hJW hIX hJX hsz hI hJ
 cases e1 with
 | false =>
  go_enter Try.func9,Try.ntmps9
  go_upto_region 1 with fail
  rw [← HW.out.1]
  refine wp_region_later (B:=W.heap.size) (w0:=W) (by kernel_rfl) (by kernel_rfl) (Below.refl _ _) ?_
  repeat (any_goals (first | go_big_quiet_step ((first | (go_at_call 32;exact HR.out _ _ _ _ _) | (go_at_call 31;exact HC1.out _) | (go_at_call 33;with_reducible first | exact HC2.out _ | exact HC3.out _ | exact HC4.out _))) | quiet_step ((first | (go_at_call 32;exact HR.out _ _ _ _ _) | (go_at_call 31;exact HC1.out _) | (go_at_call 33;with_reducible first | exact HC2.out _ | exact HC3.out _ | exact HC4.out _)))))
  refine wpQuiet_nil ?_
  intro _ hw'
  obtain ⟨nq,hw''⟩:=hw'
  subst hw''
  have HQ:=hid nq.be
  generalize nq.w=wq at *
  go_wp2_with fail
  go_ret
  exact ⟨by rw [HF.out];rfl,HW.out.2.1.trans (HQ.out.mono (by omega))⟩
 | true =>
  cases e2 with
  | false =>
   go_enter Try.func9,Try.ntmps9
   go_upto_region 1 with fail
   rw [← HW.out.1]
   refine wp_region_later (B:=W.heap.size) (w0:=W) (by kernel_rfl) (by kernel_rfl) (Below.refl _ _) ?_
   repeat (any_goals (first | go_big_quiet_step ((first | (go_at_call 32;exact HR.out _ _ _ _ _) | (go_at_call 31;exact HC1.out _) | (go_at_call 33;with_reducible first | exact HC2.out _ | exact HC3.out _ | exact HC4.out _))) | quiet_step ((first | (go_at_call 32;exact HR.out _ _ _ _ _) | (go_at_call 31;exact HC1.out _) | (go_at_call 33;with_reducible first | exact HC2.out _ | exact HC3.out _ | exact HC4.out _)))))
   refine wpQuiet_nil ?_
   intro _ hw'
   obtain ⟨nq,hw''⟩:=hw'
   subst hw''
   have HQ:=hid nq.be
   generalize nq.w=wq at *
   go_wp2_with fail
   go_ret
   exact ⟨by rw [HF.out];rfl,HW.out.2.1.trans (HQ.out.mono (by omega))⟩
  | true =>
   cases e3 with
   | false =>
    go_enter Try.func9,Try.ntmps9
    go_upto_region 1 with fail
    rw [← HW.out.1]
    refine wp_region_later (B:=W.heap.size) (w0:=W) (by kernel_rfl) (by kernel_rfl) (Below.refl _ _) ?_
    repeat (any_goals (first | go_big_quiet_step ((first | (go_at_call 32;exact HR.out _ _ _ _ _) | (go_at_call 31;exact HC1.out _) | (go_at_call 33;with_reducible first | exact HC2.out _ | exact HC3.out _ | exact HC4.out _))) | quiet_step ((first | (go_at_call 32;exact HR.out _ _ _ _ _) | (go_at_call 31;exact HC1.out _) | (go_at_call 33;with_reducible first | exact HC2.out _ | exact HC3.out _ | exact HC4.out _)))))
    refine wpQuiet_nil ?_
    intro _ hw'
    obtain ⟨nq,hw''⟩:=hw'
    subst hw''
    have HQ:=hid nq.be
    generalize nq.w=wq at *
    go_wp2_with fail
    go_ret
    exact ⟨by rw [HF.out];rfl,HW.out.2.1.trans (HQ.out.mono (by omega))⟩
   | true =>
    cases e4 with
    | false =>
     go_enter Try.func9,Try.ntmps9
     go_upto_region 1 with fail
     rw [← HW.out.1]
     refine wp_region_later (B:=W.heap.size) (w0:=W) (by kernel_rfl) (by kernel_rfl) (Below.refl _ _) ?_
     repeat (any_goals (first | go_big_quiet_step ((first | (go_at_call 32;exact HR.out _ _ _ _ _) | (go_at_call 31;exact HC1.out _) | (go_at_call 33;with_reducible first | exact HC2.out _ | exact HC3.out _ | exact HC4.out _))) | quiet_step ((first | (go_at_call 32;exact HR.out _ _ _ _ _) | (go_at_call 31;exact HC1.out _) | (go_at_call 33;with_reducible first | exact HC2.out _ | exact HC3.out _ | exact HC4.out _)))))
     refine wpQuiet_nil ?_
     intro _ hw'
     obtain ⟨nq,hw''⟩:=hw'
     subst hw''
     have HQ:=hid nq.be
     generalize nq.w=wq at *
     go_wp2_with fail
     go_ret
     exact ⟨by rw [HF.out];rfl,HW.out.2.1.trans (HQ.out.mono (by omega))⟩
    | true =>
     go_enter Try.func9,Try.ntmps9
     go_upto_region 1 with fail
     rw [← HW.out.1]
     refine wp_region_later (B:=W.heap.size) (w0:=W) (by kernel_rfl) (by kernel_rfl) (Below.refl _ _) ?_
     repeat (any_goals (first | go_big_quiet_step ((first | (go_at_call 32;exact HR.out _ _ _ _ _) | (go_at_call 31;exact HC1.out _) | (go_at_call 33;with_reducible first | exact HC2.out _ | exact HC3.out _ | exact HC4.out _))) | quiet_step ((first | (go_at_call 32;exact HR.out _ _ _ _ _) | (go_at_call 31;exact HC1.out _) | (go_at_call 33;with_reducible first | exact HC2.out _ | exact HC3.out _ | exact HC4.out _)))))
     refine wpQuiet_nil ?_
     intro _ hw'
     obtain ⟨nq,hw''⟩:=hw'
     subst hw''
     have HQ:=hid nq.be
     generalize nq.w=wq at *
     go_wp2_with fail
     go_ret
     exact ⟨by rw [HF.out];rfl,HW.out.2.1.trans (HQ.out.mono (by omega))⟩
end Go.Proofs.Ytfobmfngbfbfdaa
namespace Go.Proofs.Ytfobmfngbfbfdaa
set_option linter.unusedSimpArgs false
set_option linter.unusedVariables false
open Go.RowKit
theorem firstIx_sq (p:Nat→Prop) (n:Nat):(firstIx p n<n→p (firstIx p n))∧∀ j,j<firstIx p n→¬ p j:=by
 induction n with
 | zero=>exact ⟨fun h=>by simp [firstIx] at h,fun j hj=>by simp [firstIx] at hj⟩
 | succ n ih =>
  by_cases h1:firstIx p n<n
  ·have e:firstIx p (n+1)=firstIx p n:=by simp only [firstIx];rw [if_pos h1]
   rw [e];exact ⟨fun _=>ih.1 h1,ih.2⟩
  ·have h0:=firstIx_le p n
   have hn:firstIx p n=n:=by omega
   rw [hn] at ih
   by_cases h2:p n
   ·have e:firstIx p (n+1)=n:=by simp only [firstIx];rw [if_neg h1,if_pos h2]
    rw [e];exact ⟨fun _=>h2,ih.2⟩
   ·have e:firstIx p (n+1)=n+1:=by simp only [firstIx];rw [if_neg h1,if_neg h2]
    rw [e];exact ⟨fun h=>by omega,fun j hj=>by
     by_cases ej:j=n
     ·subst ej;exact h2
     ·exact ih.2 j (by omega)⟩
def kx (rows:List (List Int)) (i k:Nat):Int:=ix (rx rows i) k
noncomputable def grpEnd (rows:List (List Int)) (k p hi:Nat):Nat:=firstIx (fun i=>p≤i∧kx rows i k ≠ kx rows p k) hi
theorem grpEnd_le (rows:List (List Int)) (k p hi:Nat):grpEnd rows k p hi≤hi:=firstIx_le _ _
theorem grpEnd_eq {rows:List (List Int)} {k p hi m:Nat} (hm:m≤hi) (hpm:p≤m) (h:∀ i,p≤i→i<m→kx rows i k=kx rows p k) (he:m<hi→kx rows m k ≠ kx rows p k):grpEnd rows k p hi=m:=by
 unfold grpEnd
 by_cases g:m<hi
 ·exact firstIx_eq (p:=fun i=>p≤i∧kx rows i k ≠ kx rows p k) g ⟨hpm,he g⟩ fun j hj hn=>hn.2 (h j hn.1 hj)
 ·obtain rfl:m=hi:=by omega
  exact firstIx_none fun i hi' hn=>hn.2 (h i hn.1 hi')
theorem grpEnd_gt {rows:List (List Int)} {k p hi:Nat} (hp:p<hi):p<grpEnd rows k p hi:=by
 have hs:=firstIx_sq (fun i=>p≤i∧kx rows i k ≠ kx rows p k) hi
 have hl:=firstIx_le (fun i=>p≤i∧kx rows i k ≠ kx rows p k) hi
 show p<firstIx _ _
 by_cases g:firstIx (fun i=>p≤i∧kx rows i k ≠ kx rows p k) hi<hi
 ·have h1:=hs.1 g
  by_cases e:firstIx (fun i=>p≤i∧kx rows i k ≠ kx rows p k) hi=p
  ·have h2:=h1.2;rw [e] at h2;exact absurd rfl h2
  ·have:=h1.1;omega
 ·omega
def px (pos:List Int) (k:Nat):Nat:=(ix pos k).toNat
noncomputable def bnd (rows:List (List Int)) (pos:List Int):Nat→Nat×Nat
 | 0=>(0,rows.length)
 | k+1=>(px pos k,grpEnd rows k (px pos k) (bnd rows pos k).2)
def LevOK (rows:List (List Int)) (low high pos:List Int) (n k:Nat):Prop :=
 ix low k=(bnd rows pos k).1∧ix high k=(bnd rows pos k).2∧((bnd rows pos k).1≤ix pos k∧ix pos k≤(bnd rows pos k).2)∧(ix pos k=(bnd rows pos k).2→k+1=n)∧(((bnd rows pos k).1:Int)<ix pos k→ix pos k<(bnd rows pos k).2→kx rows (px pos k - 1) k ≠ kx rows (px pos k) k)
theorem lev_px {rows:List (List Int)} {low high pos:List Int} {n k:Nat} (h:LevOK rows low high pos n k):ix pos k=(px pos k:Nat):=by
 have:=h.2.2.1.1;unfold px;omega
theorem bnd_ok {rows:List (List Int)} {low high pos:List Int} {n k:Nat} (hk:k<n) (h:∀ j,j<k→LevOK rows low high pos n j):(bnd rows pos k).1≤(bnd rows pos k).2∧(bnd rows pos k).2≤rows.length:=by
 induction k with
 | zero=>exact ⟨Nat.zero_le _,Nat.le_refl _⟩
 | succ k ih =>
  have h1:=ih (by omega) (fun j hj=>h j (by omega))
  have h2:=h k (by omega)
  have h3:=lev_px h2
  have h4:px pos k<(bnd rows pos k).2:=by
   have g1:=h2.2.2.1.2;have g2:=h2.2.2.2.1
   by_cases e:ix pos k=(bnd rows pos k).2
   ·have:=g2 e;omega
   ·omega
  simp only [bnd]
  exact ⟨Nat.le_of_lt (grpEnd_gt h4),Nat.le_trans (grpEnd_le _ _ _ _) h1.2⟩
open Classical in
noncomputable def validIt (ar:Int) (rows:List (List Int)) (low high pos:List Int):Bool :=
 decide (validR ar rows=true∧low.length=pos.length∧high.length=pos.length∧(pos.length:Int)≤ar∧∀ k,k<pos.length→LevOK rows low high pos pos.length k)
section
variable {ar:Int} {rows:List (List Int)} {low high pos:List Int}
theorem validIt_out (h:validIt ar rows low high pos=true):validR ar rows=true∧low.length=pos.length∧high.length=pos.length∧(pos.length:Int)≤ar∧∀ k,k<pos.length→LevOK rows low high pos pos.length k:=by
 simpa only [validIt,decide_eq_true_eq] using h
theorem validIt_mk (h1:validR ar rows=true) (h2:low.length=pos.length) (h3:high.length=pos.length) (h4:(pos.length:Int)≤ar) (h5:∀ k,k<pos.length→LevOK rows low high pos pos.length k):validIt ar rows low high pos=true:=by
 simp only [validIt,decide_eq_true_eq];exact ⟨h1,h2,h3,h4,h5⟩
theorem validIt_no (h:¬ (validR ar rows=true∧low.length=pos.length∧high.length=pos.length∧(pos.length:Int)≤ar)):validIt ar rows low high pos=false:=by
 simp only [validIt,decide_eq_false_iff_not];exact fun g=>h ⟨g.1,g.2.1,g.2.2.1,g.2.2.2.1⟩
theorem validIt_lev {k:Nat} (hk:k<pos.length) (h:¬ LevOK rows low high pos pos.length k):validIt ar rows low high pos=false:=by
 simp only [validIt,decide_eq_false_iff_not];exact fun g=>h (g.2.2.2.2 k hk)
noncomputable def atEndF (ar:Int) (rows:List (List Int)) (low high pos:List Int):Bool:=validIt ar rows low high pos && decide (0<pos.length∧ix pos (pos.length - 1)=ix high (pos.length - 1))
noncomputable def standsF (ar:Int) (rows:List (List Int)) (low high pos:List Int):Bool:=validIt ar rows low high pos && (decide (0<pos.length) && !atEndF ar rows low high pos)
theorem stands_out (h:standsF ar rows low high pos=true):validIt ar rows low high pos=true∧∃ l,pos.length=l+1∧ix pos l=(px pos l:Nat)∧ix high l=((bnd rows pos l).2:Nat)∧px pos l<(bnd rows pos l).2∧(bnd rows pos l).2≤rows.length∧(l:Int)<ar∧∀ i,i<rows.length→((rx rows i).length:Int)=ar:=by
 simp only [standsF,Bool.and_eq_true,decide_eq_true_eq,Bool.not_eq_true'] at h
 obtain ⟨hv,hp,he⟩:=h
 obtain ⟨v1,v2,v3,v4,v5⟩:=validIt_out hv
 refine ⟨hv,pos.length - 1,by omega,?_⟩
 have hl:=v5 (pos.length - 1) (by omega)
 have hb:=bnd_ok (n:=pos.length) (k:=pos.length - 1) (by omega) (fun j hj=>v5 j (by omega))
 have hpx:=lev_px hl
 refine ⟨hpx,hl.2.1,?_,hb.2,by omega,fun i hi=>((validR_out v1).2.2 i hi).1⟩
 simp only [atEndF,hv,Bool.true_and,decide_eq_false_iff_not] at he
 have h1:=hl.2.2.1.2
 have h2:=hl.2.1
 by_cases e:px pos (pos.length - 1)<(bnd rows pos (pos.length - 1)).2
 ·exact e
 ·exact absurd ⟨hp,by omega⟩ he
end
end Go.Proofs.Ytfobmfngbfbfdaa
namespace Go.Proofs.Ytfobmfngbfbfdaa
set_option linter.unusedSimpArgs false
set_option linter.unusedVariables false
open Go.RowKit
set_option maxHeartbeats 3200000 in
theorem specValidRel {fz:Bool} {lo hi:Nat} (ar:Int) (a:Option Addr) (n c:Nat) (rows:List (List Int)) (w:World) (hI:RowsA fz lo hi w a n c rows) (hh:hi≤w.heap.size) (har:I64 ar) :
 Calls Try.prog 53 #[trieV ar a n c] w (Leaves w (.bool (validR ar rows))):=by
 have HAR:=hid har;clear har
 have hl:=hI.len
 have hs:=hI.small
 have HL:=hid hl;clear hl
 by_cases hw:0≤ar∧ar≤5
 ·have hd:decide (0≤ar∧ar≤5)=true:=by simpa using hw
  by_cases hn:n≤4000
  ·go_enter Try.func53,Try.ntmps53
   go_wp2_with fail
   refine (specIn ar 0 5 _).mono ?_
   rintro e w1 ⟨rfl,m1,hw1⟩
   rw [hd]
   have hc0:w1.cell? ⟨w.heap.size,0,none⟩=some (.int .i64 ar):=by rw [hw1];simp
   have hc1:w1.cell? ⟨w.heap.size,1,none⟩=some (.slice a n c):=by rw [hw1];simp
   have hb1:Below w.heap.size w w1:=by rw [hw1];exact belA
   have hI1:=hI.be intsOK hb1 hh
   have HB:=hid (And.intro hb1 hI1);clear hw1 hI1 hb1
   go_wp2_with fail
   go_loopw [3] (fun i wr=>∃ k:Nat,i=.int .i64 k∧k≤n∧Hid (∀ i,i<k→RowOK ar rows i)∧Hid (∃ m,wr=w1.drewN m)) (fun i _=>n - (intOf i).toNat)
   case atStart=>exact ⟨0,rfl,by omega,hid (fun i hi=>by omega),hid ⟨0,rfl⟩⟩
   case round =>
    obtain ⟨k,rfl,hk,HT,HD⟩:=hrel
    have hc0r:wr.cell? ⟨w.heap.size,0,none⟩=some (.int .i64 ar):=by obtain ⟨m,rfl⟩:=HD.out;exact hc0
    have hc1r:wr.cell? ⟨w.heap.size,1,none⟩=some (.slice a n c):=by obtain ⟨m,rfl⟩:=HD.out;exact hc1
    have hbr:∀ q,Below w.heap.size w (wr.drewN q):=by obtain ⟨m,rfl⟩:=HD.out;intro q;exact below_drewN (below_drewN HB.out.1 m) q
    have HBR:=hid hbr;clear hbr
    by_cases hlt:k<n
    ·have hIr:RowsA fz lo hi wr a n c rows:=HB.out.2.keep intsOK (keeps_dr lo hi HD.out)
     obtain ⟨b,off,rfl⟩:=hI.some (by omega)
     obtain ⟨_,_,ra,rn,rc,hc,hr,_⟩:=hIr.at hlt
     have hrl:=hr.len
     have hrs:=hr.small
     have HRL:=hid hrl;clear hrl
     have HR:=hid hr;clear hr
     have HI:=hid hI;clear hI
     by_cases he:(rn:Int)=ar
     ·have hb:((rn:Int) != ar)=false:=by simp [he]
      have HE:=hid he;clear he
      obtain ⟨vb,hvb⟩:∃ vb,valB (rx rows k)=vb:=⟨_,rfl⟩
      have HVB:=hid hvb;clear hvb
      have hcV:∀ w',IntsA fz lo hi w' ra rn rc (rx rows k)→Calls Try.prog 61 #[.slice ra rn rc] w' (Gives w' (.bool vb)):=fun w' h=>by have:=specVals ra rn rc _ w' h;rwa [HVB.out] at this
      have HCV:=hid hcV;clear hcV
      cases vb with
      | false =>
       have HF:=hid (validR_row (ar:=ar) (rows:=rows) (i:=k) (by rw [HL.out];exact hlt) (by rintro ⟨_,h2,_⟩;rw [HVB.out] at h2;cases h2))
       have HIR:=hid hIr;clear hIr
       go_wp2_with fail
       go_quiet ((go_at_call 61;exact (Calls.quiet_of (HCV.out _ (HR.out.drewN _)))))
       go_wp2_with fail
       go_ret
       exact ⟨by rw [HF.out];rfl,HBR.out _⟩
      | true =>
       by_cases h0:k=0
       ·have HT2:Hid (∀ i,i<k+1→RowOK ar rows i):=hid (fun i hi=>by
         obtain rfl:i=k:=by omega
         exact ⟨by rw [HRL.out];exact HE.out,HVB.out,fun h=>by omega⟩)
        have HIR:=hid hIr;clear hIr
        have h0':decide ((0:Int)<k)=false:=by simp;omega
        have h0'':¬ 0<k:=by omega
        have H0:=hid h0;clear h0
        go_wp2_with fail
        go_quiet ((go_at_call 61;exact (Calls.quiet_of (HCV.out _ (HR.out.drewN _)))))
        go_wp2_with fail
        go_roundw
        case rel=>exact ⟨k+1,by go_num,by omega,HT2,hid (by first | exact HD.out | exact dr_more HD.out _ | (rw [dd];exact dr_more HD.out _) | (rw [dd,dd];exact dr_more HD.out _) | exact ⟨_,rfl⟩ | exact ⟨_,dd⟩)⟩
        case measure=>simp [intOf];omega
       ·obtain ⟨j,rfl⟩:∃ j,k=j+1:=⟨k - 1,by omega⟩
        obtain ⟨_,_,qa,qn,qc,hcq,hq,_⟩:=hIr.at (show j<n by omega)
        have HQ:=hid hq;clear hq
        have HIR:=hid hIr;clear hIr
        clear h0
        obtain ⟨d,hde⟩:∃ d,cmpR (rx rows j) (rx rows (j+1))=d:=⟨_,rfl⟩
        have HDE:=hid hde;clear hde
        have hcC:∀ w',IntsA fz lo hi w' qa qn qc (rx rows j)→IntsA fz lo hi w' ra rn rc (rx rows (j+1))→Calls Try.prog 33 #[.slice qa qn qc,.slice ra rn rc] w' (Gives w' (.int .i64 d)):=fun w' h h'=>by have:=specCmpR qa ra qn qc rn rc _ _ w' h h';rwa [HDE.out] at this
        have HCC:=hid hcC;clear hcC
        have h0':decide ((0:Int)<(j:Int)+1)=true:=by simp
        have h0'':IntKind.i64.wrap ((j:Int)+1 - 1)=j:=by rw [show (j:Int)+1 - 1=j by omega];exact IntWalk.i64_in _ (by omega)
        by_cases hd0:d<0
        ·have HT2:Hid (∀ i,i<j+1+1→RowOK ar rows i):=hid (fun i hi=>by
          by_cases e:i=j+1
          ·subst e;exact ⟨by rw [HRL.out];exact HE.out,HVB.out,fun _=>by show cmpR (rx rows j) _<0;rw [HDE.out];exact hd0⟩
          ·exact HT.out i (by omega))
         go_wp2_with fail
         go_quiet (first
          | (go_at_call 61;exact (Calls.quiet_of (HCV.out _ (HR.out.drewN _))))
          | (go_at_call 33;exact (Calls.quiet_of (HCC.out _ (HQ.out.drewN _) (HR.out.drewN _)))))
         go_wp2_with fail
         go_roundw
         case rel=>exact ⟨j+1+1,by go_num,by omega,HT2,hid (by first | exact HD.out | exact dr_more HD.out _ | (rw [dd];exact dr_more HD.out _) | (rw [dd,dd];exact dr_more HD.out _) | exact ⟨_,rfl⟩ | exact ⟨_,dd⟩)⟩
         case measure=>simp [intOf];omega
        ·have HF:=hid (validR_row (ar:=ar) (rows:=rows) (i:=j+1) (by rw [HL.out];exact hlt) (by rintro ⟨_,_,h2⟩;have:=h2 (by omega);simp only [Nat.add_sub_cancel] at this;rw [HDE.out] at this;exact hd0 this))
         go_wp2_with fail
         go_quiet (first
          | (go_at_call 61;exact (Calls.quiet_of (HCV.out _ (HR.out.drewN _))))
          | (go_at_call 33;exact (Calls.quiet_of (HCC.out _ (HQ.out.drewN _) (HR.out.drewN _)))))
         go_wp2_with fail
         go_ret
         exact ⟨by rw [HF.out];rfl,HBR.out _⟩
     ·have hb:((rn:Int) != ar)=true:=by simp [he]
      have HF:=hid (validR_row (ar:=ar) (rows:=rows) (i:=k) (by rw [HL.out];exact hlt) (by rintro ⟨h2,_⟩;rw [HRL.out] at h2;exact he h2))
      have HE:=hid he;clear he
      have HIR:=hid hIr;clear hIr
      go_wp2_with fail
      go_quiet (fail)
      go_wp2_with fail
      go_ret
      exact ⟨by rw [HF.out];rfl,HBR.out _⟩
    ·have HF:=hid (validR_true (ar:=ar) (rows:=rows) hw (by rw [HL.out];exact hn) (by rw [HL.out];intro i hi;exact HT.out i (by omega)))
     go_wp2_with fail
     go_ret
     exact ⟨by rw [HF.out];rfl,HBR.out 0⟩
  ·have HF:=hid (validR_big (ar:=ar) (rows:=rows) (by rw [HL.out];exact hn))
   go_enter Try.func53,Try.ntmps53
   go_wp2_with fail
   refine (specIn ar 0 5 _).mono ?_
   rintro e w1 ⟨rfl,m1,rfl⟩
   rw [hd]
   go_wp2_with fail
   go_ret
   exact ⟨by rw [HF.out];rfl,belA⟩
 ·have hd:decide (0≤ar∧ar≤5)=false:=by simpa using hw
  have HF:=hid (validR_ar (rows:=rows) hw)
  go_enter Try.func53,Try.ntmps53
  go_wp2_with fail
  refine (specIn ar 0 5 _).mono ?_
  rintro e w1 ⟨rfl,m1,rfl⟩
  rw [hd]
  go_wp2_with fail
  go_ret
  exact ⟨by rw [HF.out];rfl,belA⟩
set_option maxHeartbeats 400000 in
theorem specValidTrie {fz:Bool} {lo hi:Nat} (ar:Int) (a:Option Addr) (n c:Nat) (rows:List (List Int)) (w:World) (hI:RowsA fz lo hi w a n c rows) (hh:hi≤w.heap.size) (har:I64 ar) :
 Calls Try.prog 38 #[trieV ar a n c] w (Leaves w (.bool (validR ar rows))):=by
 have HAR:=hid har;clear har
 go_enter Try.func38,Try.ntmps38
 go_wp2_with fail
 refine (specAsRel ar a n c _).mono ?_
 rintro e w1 ⟨rfl,hb1⟩
 have hb2:Below w.heap.size w w1:=Below.trans belA (hb1.mono leA)
 have hz:=hb2.size
 go_wp2_with fail
 refine (specValidRel ar a n c rows _ (hI.be intsOK hb2 hh) (by omega) HAR.out).mono ?_
 rintro e w2 ⟨rfl,hb3⟩
 go_wp2_with fail
 go_ret
 exact ⟨rfl,Below.calm hb2 hb3⟩
end Go.Proofs.Ytfobmfngbfbfdaa
