/- Lemmas for the proof of FnIteration, part 2 of 22: no condition of their own. -/
import Derived.Test.YtfobmfngbfbfdaaJ1
import Derived.Deep.Slices
import Derived.Deep.RegionHeld3
import Derived.Deep.CutBlock
import Derived.Deep.DeepCutAuto
namespace Go.Proofs.Ytfobmfngbfbfdaa
set_option linter.unusedSimpArgs false
set_option linter.unusedVariables false
open Go.RowKit
theorem cset_same {w:World} {a:Addr} {v u:Value} (h:w.cell? a=some u):(w.setCell a v).cell? a=some v:=by
 apply World.cell?_setCell_same <;> assumption
theorem cset_other {w:World} {a b:Addr} {v:Value} (h:a ≠ b):(w.setCell a v).cell? b=w.cell? b:=by
 apply World.cell?_setCell_other <;> assumption
def CellM (v v':Value):Prop:=v'=v∨∃ x x',v=.int .i64 x∧v'=.int .i64 x'∧I64 x'
theorem CellM.trans {a b c:Value} (h:CellM a b) (k:CellM b c):CellM a c:=by
 rcases k with rfl | ⟨x,x',rfl,rfl,hx⟩
 ·exact h
 ·rcases h with h | ⟨y,y',rfl,_,_⟩
  ·exact .inr ⟨x,x',h.symm,rfl,hx⟩
  ·exact .inr ⟨y,x',rfl,rfl,hx⟩
structure Marked (lo hi:Nat) (w w':World):Prop where
 os:w'.os=w.os
 tape:w'.tape=w.tape
 output:w'.output=w.output
 size:w'.heap.size=w.heap.size
 out:∀ k,(k<lo∨hi≤k)→w'.heap[k]? = w.heap[k]?
 cell:∀ p v,w.cell? p=some v→∃ v',w'.cell? p=some v'∧CellM v v'
 frz:∀ p,w'.frozen? p=w.frozen? p
theorem Marked.refl (lo hi:Nat) (w:World):Marked lo hi w w:=⟨rfl,rfl,rfl,rfl,fun _ _=>rfl,fun _ v h=>⟨v,h,.inl rfl⟩,fun _=>rfl⟩
theorem Marked.trans {lo hi:Nat} {a b c:World} (h:Marked lo hi a b) (k:Marked lo hi b c):Marked lo hi a c :=
 ⟨k.os.trans h.os,k.tape.trans h.tape,k.output.trans h.output,k.size.trans h.size,fun i hi=>(k.out i hi).trans (h.out i hi),fun p v hp=>by
  obtain ⟨v',g1,g2⟩:=h.cell p v hp
  obtain ⟨v'',g3,g4⟩:=k.cell p v' g1
  exact ⟨v'',g3,g2.trans g4⟩,fun p=>(k.frz p).trans (h.frz p)⟩
theorem Marked.drewN {lo hi:Nat} {a b:World} (h:Marked lo hi a b) (m:Nat):Marked lo hi a (b.drewN m):=⟨h.os,h.tape,h.output,h.size,h.out,h.cell,h.frz⟩
theorem Marked.wide {lo hi lo' hi':Nat} {a b:World} (h:Marked lo hi a b) (h1:lo'≤lo) (h2:hi≤hi'):Marked lo' hi' a b:=⟨h.os,h.tape,h.output,h.size,fun k hk=>h.out k (by omega),h.cell,h.frz⟩
theorem Marked.keeps {lo hi lo' hi':Nat} {a b:World} (h:Marked lo hi a b) (hd:hi'≤lo∨hi≤lo'):Keeps lo' hi' a b:=fun k h1 h2=>h.out k (by omega)
theorem IntsA.marked {lo hi lo' hi':Nat} {w w':World} {a:Option Addr} {n c:Nat} {xs:List Int} (h:IntsA true lo hi w a n c xs) (hm:Marked lo' hi' w w'):∃ ys,IntsA true lo hi w' a n c ys:=by
 obtain ⟨h1,h2,h3,h4,h5,h6⟩:=h
 by_cases hn:0<n
 ·obtain ⟨b,off,ha,hl,hb,hc⟩:=h5 hn
  have each:∀ i,i<n→∃ y:Int,I64 y∧w'.cell? ⟨b,off+i,none⟩=some (.int .i64 y):=by
   intro i hi
   obtain ⟨v',g1,g2⟩:=hm.cell _ _ (hc i hi).1
   rcases g2 with rfl | ⟨_,y,_,rfl,hy⟩
   ·exact ⟨ix xs i,by rw [ix_lt (by omega)];exact h4 _ (List.getElem_mem _),g1⟩
   ·exact ⟨y,hy,g1⟩
  obtain ⟨y,hy⟩:=Deep.choose_lt each
  refine ⟨(List.range n).map y,by simp,h2,h3,?_,fun _=>⟨b,off,ha,hl,hb,fun i hi=>⟨?_,fun hf=>by rw [hm.frz];exact (hc i hi).2 hf⟩⟩,h6⟩
  ·intro z hz
   obtain ⟨i,hi,rfl⟩:=List.mem_map.1 hz
   exact (hy i (by simpa using hi)).1
  ·rw [(hy i hi).2];simp [ix,hi]
 ·exact ⟨xs,h1,h2,h3,h4,fun h=>absurd h hn,h6⟩
def marks (k:Int):Nat→List Int
 | 0=>[]
 | n+1=>marks k n ++ [k+n]
theorem CellM.slice {a:Option Addr} {n c:Nat} {v:Value} (h:CellM (.slice a n c) v):v=.slice a n c:=by
 rcases h with h | ⟨_,_,h,_⟩
 ·exact h
 ·cases h
end Go.Proofs.Ytfobmfngbfbfdaa
namespace Go.Proofs.Ytfobmfngbfbfdaa
set_option linter.unusedSimpArgs false
set_option linter.unusedVariables false
open Go.RowKit
structure MarkedG (lo hi:Nat) (w w':World):Prop where
 os:w'.os=w.os
 tape:w'.tape=w.tape
 output:w'.output=w.output
 size:w.heap.size≤w'.heap.size
 out:∀ k,k<w.heap.size→(k<lo∨hi≤k)→w'.heap[k]? = w.heap[k]?
 cell:∀ p v,w.cell? p=some v→∃ v',w'.cell? p=some v'∧CellM v v'
 frz:∀ p,w.cell? p ≠ none→w'.frozen? p=w.frozen? p
theorem cell_lt {w:World} {p:Addr} (h:w.cell? p ≠ none):p.block<w.heap.size:=by
 cases hc:w.cell? p with
 | none=>exact absurd hc h
 | some v=>exact World.block_lt_of_cell? w _ hc
theorem MarkedG.of_below {lo hi:Nat} {w w':World} (h:Below w.heap.size w w'):MarkedG lo hi w w':=by
 refine ⟨h.os,h.tape,h.output,h.size,fun k hk _=>h.block k hk,fun p v hp=>⟨v,?_,.inl rfl⟩,fun p hp=>?_⟩
 ·rw [h.cell (World.block_lt_of_cell? w _ hp)];exact hp
 ·rw [h.frozen (cell_lt hp)]
theorem MarkedG.trans {lo hi:Nat} {a b c:World} (h:MarkedG lo hi a b) (k:MarkedG lo hi b c):MarkedG lo hi a c:=by
 have hs:=h.size
 refine ⟨k.os.trans h.os,k.tape.trans h.tape,k.output.trans h.output,Nat.le_trans h.size k.size,fun i h1 h2=>(k.out i (by omega) h2).trans (h.out i h1 h2),fun p v hp=>?_,fun p hp=>?_⟩
 ·obtain ⟨v',g1,g2⟩:=h.cell p v hp
  obtain ⟨v'',g3,g4⟩:=k.cell p v' g1
  exact ⟨v'',g3,g2.trans g4⟩
 ·rw [k.frz p,h.frz p hp]
  cases hc:a.cell? p with
  | none=>exact absurd hc hp
  | some v=>obtain ⟨v',g1,_⟩:=h.cell p v hc;rw [g1];exact fun h=>(by cases h)
theorem MarkedG.drewN {lo hi:Nat} {a b:World} (h:MarkedG lo hi a b) (m:Nat):MarkedG lo hi a (b.drewN m):=h.trans (.of_below (below_drewN (Below.refl _ _) m))
theorem MarkedG.keeps {lo hi lo' hi':Nat} {a b:World} (h:MarkedG lo hi a b) (hd:hi'≤lo∨hi≤lo') (hs:hi'≤a.heap.size):Keeps lo' hi' a b:=fun k h1 h2=>h.out k (by omega) (by omega)
theorem MarkedG.wide {lo hi lo' hi':Nat} {a b:World} (h:MarkedG lo hi a b) (h1:lo'≤lo) (h2:hi≤hi'):MarkedG lo' hi' a b:=⟨h.os,h.tape,h.output,h.size,fun k hk hk'=>h.out k hk (by omega),h.cell,h.frz⟩
def TrieA (fz:Bool) (lo hi:Nat) (w:World) (ar:Int) (a:Option Addr) (n c:Nat) (rows:List (List Int)):Prop:=I64 ar∧RowsA fz lo hi w a n c rows
theorem beInts {fz:Bool} {lo hi B:Nat} {w w':World} {a:Option Addr} {n c:Nat} {xs:List Int} (h:IntsA fz lo hi w a n c xs) (hb:Below B w w') (hh:hi≤B):IntsA fz lo hi w' a n c xs:=h.be hb hh
theorem kpInts {fz:Bool} {lo hi:Nat} {w w':World} {a:Option Addr} {n c:Nat} {xs:List Int} (h:IntsA fz lo hi w a n c xs) (hb:Keeps lo hi w w'):IntsA fz lo hi w' a n c xs:=h.keep hb
theorem beTrie {fz:Bool} {lo hi B:Nat} {w w':World} {ar:Int} {a:Option Addr} {n c:Nat} {rows:List (List Int)} (h:TrieA fz lo hi w ar a n c rows) (hb:Below B w w') (hh:hi≤B):TrieA fz lo hi w' ar a n c rows:=⟨h.1,SlA.be intsOK h.2 hb hh⟩
theorem kpTrie {fz:Bool} {lo hi:Nat} {w w':World} {ar:Int} {a:Option Addr} {n c:Nat} {rows:List (List Int)} (h:TrieA fz lo hi w ar a n c rows) (hb:Keeps lo hi w w'):TrieA fz lo hi w' ar a n c rows:=⟨h.1,SlA.keep intsOK h.2 hb⟩
end Go.Proofs.Ytfobmfngbfbfdaa
namespace Go.Proofs.Ytfobmfngbfbfdaa
set_option linter.unusedSimpArgs false
set_option linter.unusedVariables false
open Go.RowKit
abbrev iterV (ar:Int) (a:Option Addr) (n:Nat) (c:Nat) (la:Option Addr) (ln:Nat) (lc:Nat) (ga:Option Addr) (gn:Nat) (gc:Nat) (pa:Option Addr) (pn:Nat) (pc:Nat):Value:=.agg #[.int .i64 ar,.slice a n c,.slice la ln lc,.slice ga gn gc,.slice pa pn pc]
def IterA (fz:Bool) (lo hi:Nat) (w:World) (ar:Int) (a:Option Addr) (n:Nat) (c:Nat) (rows:List (List Int)) (la:Option Addr) (ln:Nat) (lc:Nat) (lw:List Int) (ga:Option Addr) (gn:Nat) (gc:Nat) (gh:List Int) (pa:Option Addr) (pn:Nat) (pc:Nat) (ps:List Int):Prop:=TrieA fz (lo) hi w ar a n c rows∧IntsA fz (lo) hi w la ln lc lw∧IntsA fz (lo) hi w ga gn gc gh∧IntsA fz (lo) hi w pa pn pc ps
theorem beIter {fz:Bool} {lo hi B:Nat} {w w':World} {ar:Int} {a:Option Addr} {n:Nat} {c:Nat} {rows:List (List Int)} {la:Option Addr} {ln:Nat} {lc:Nat} {lw:List Int} {ga:Option Addr} {gn:Nat} {gc:Nat} {gh:List Int} {pa:Option Addr} {pn:Nat} {pc:Nat} {ps:List Int} (h:IterA fz lo hi w ar a n c rows la ln lc lw ga gn gc gh pa pn pc ps) (hb:Below B w w') (hh:hi≤B):IterA fz lo hi w' ar a n c rows la ln lc lw ga gn gc gh pa pn pc ps:=⟨beTrie h.1 hb hh,beInts h.2.1 hb hh,beInts h.2.2.1 hb hh,beInts h.2.2.2 hb hh⟩
theorem kpIter {fz:Bool} {lo hi:Nat} {w w':World} {ar:Int} {a:Option Addr} {n:Nat} {c:Nat} {rows:List (List Int)} {la:Option Addr} {ln:Nat} {lc:Nat} {lw:List Int} {ga:Option Addr} {gn:Nat} {gc:Nat} {gh:List Int} {pa:Option Addr} {pn:Nat} {pc:Nat} {ps:List Int} (h:IterA fz lo hi w ar a n c rows la ln lc lw ga gn gc gh pa pn pc ps) (hb:Keeps lo hi w w'):IterA fz lo hi w' ar a n c rows la ln lc lw ga gn gc gh pa pn pc ps:=⟨kpTrie h.1 hb,kpInts h.2.1 hb,kpInts h.2.2.1 hb,kpInts h.2.2.2 hb⟩
def szIter (rows:List (List Int)) (lw:List Int) (gh:List Int) (ps:List Int):Nat:=rowsSz rows+lw.length+gh.length+ps.length
end Go.Proofs.Ytfobmfngbfbfdaa
namespace Go.Proofs.Ytfobmfngbfbfdaa
set_option linter.unusedSimpArgs false
set_option linter.unusedVariables false
open Go.RowKit
set_option maxHeartbeats 1600000 in
theorem specEqRel {fz fz':Bool} {lo hi lo' hi':Nat} (ar ar':Int) (a a':Option Addr) (n c n' c':Nat) (rows rows':List (List Int)) (w:World) (hI:RowsA fz lo hi w a n c rows) (hh:hi≤w.heap.size) (hJ:RowsA fz' lo' hi' w a' n' c' rows') (hh':hi'≤w.heap.size) :
 Calls Try.prog 31 #[trieV ar a n c,trieV ar' a' n' c'] w (Leaves w (.bool (eqT ar ar' rows rows'))):=by
 have hl:=hI.len
 have hs:=hI.small
 have hl':=hJ.len
 have hs':=hJ.small
 have HL:=hid (And.intro hl hl');clear hl hl'
 by_cases he:ar=ar'
 ·have hb:(ar != ar')=false:=by simp [he]
  have hE:eqT ar ar' rows rows'=eqLL rows rows':=by unfold eqT eqLL;simp [he]
  rw [hE]
  have HE:=hid (And.intro he hE);clear he hE
  by_cases hn:n=n'
  ·subst hn
   have hbn:((n:Int) != (n:Int))=false:=by simp
   obtain ⟨W,hW⟩:∃ W,W=(w.alloc (.cells #[.int .i64 ar,.slice a n c] 49)).alloc (.cells #[.int .i64 ar',.slice a' n c'] 49):=⟨_,rfl⟩
   have hBW:Below w.heap.size w W:=by rw [hW];exact belA
   have c0:W.cell? ⟨w.heap.size,0,none⟩=some (.int .i64 ar):=by rw [hW];first | (go_simp;done) | (simp [World.cell?];done)
   have c1:W.cell? ⟨w.heap.size,1,none⟩=some (.slice a n c):=by rw [hW];first | (go_simp;done) | (simp [World.cell?];done)
   have d0:W.cell? ⟨w.heap.size+1,0,none⟩=some (.int .i64 ar'):=by rw [hW];first | (go_simp;done) | (simp [World.cell?];done)
   have d1:W.cell? ⟨w.heap.size+1,1,none⟩=some (.slice a' n c'):=by rw [hW];first | (go_simp;done) | (simp [World.cell?];done)
   have hIW:=hI.be intsOK hBW hh
   have hJW:=hJ.be intsOK hBW hh'
   have HW:=hid (And.intro hW (And.intro hBW (And.intro (And.intro hI hJ) (And.intro hIW hJW))));clear hW hBW hI hJ hIW hJW
   go_enter Try.func31,Try.ntmps31
   go_upto_region 1 with fail
   rw [← HW.out.1]
   go_wp2_with fail
   go_loopw [5] (fun i wr=>∃ k:Nat,i=.int .i64 k∧k≤n∧Hid (∀ j,j<k→rx rows j=rx rows' j)∧Hid (∃ m,wr=W.drewN m)) (fun i _=>n - (intOf i).toNat)
   case atStart=>exact ⟨0,rfl,by omega,hid (fun i hi=>by omega),hid ⟨0,rfl⟩⟩
   case round =>
    obtain ⟨k,rfl,hk,HT,HD⟩:=hrel
    have hbr:∀ q,Below w.heap.size w (wr.drewN q):=by obtain ⟨m,rfl⟩:=HD.out;intro q;exact below_drewN (below_drewN HW.out.2.1 m) q
    have HBR:=hid hbr;clear hbr
    have c1r:wr.cell? ⟨w.heap.size,1,none⟩=some (.slice a n c):=by obtain ⟨m,rfl⟩:=HD.out;exact c1
    have d1r:wr.cell? ⟨w.heap.size+1,1,none⟩=some (.slice a' n c'):=by obtain ⟨m,rfl⟩:=HD.out;exact d1
    by_cases hlt:k<n
    ·have hIr:RowsA fz lo hi wr a n c rows:=SlA.keep intsOK HW.out.2.2.2.1 (keeps_dr lo hi HD.out)
     have hJr:RowsA fz' lo' hi' wr a' n c' rows':=SlA.keep intsOK HW.out.2.2.2.2 (keeps_dr lo' hi' HD.out)
     obtain ⟨b,off,rfl⟩:=RowsA.some hIr (by omega)
     obtain ⟨_,_,ra,rn,rc,hc,hr,_⟩:=RowsA.at hIr hlt
     obtain ⟨b',off',rfl⟩:=RowsA.some hJr (by omega)
     obtain ⟨_,_,ra',rn',rc',hc',hr',_⟩:=RowsA.at hJr hlt
     obtain ⟨d,hd⟩:∃ d,cmpR (rx rows k) (rx rows' k)=d:=⟨_,rfl⟩
     have HC:=hid (fun m=>by have:=specCmpR ra ra' rn rc rn' rc' _ _ (wr.drewN m) (hr.drewN m) (hr'.drewN m);rwa [hd] at this)
     have HI:=hid (And.intro hd (And.intro hIr hJr));clear hIr hJr hr hr' hd
     by_cases hd0:d=0
     ·have hbd:(d != 0)=false:=by simp [hd0]
      have HT2:Hid (∀ j,j<k+1→rx rows j=rx rows' j):=hid (fun i hi=>by
       by_cases e:i=k
       ·subst e;exact cmpR_z7 (by rw [HI.out.1];exact hd0)
       ·exact HT.out i (by omega))
      have H0:=hid hd0;clear hd0
      go_wp2_with fail
      go_quiet ((go_at_call 33;exact (Calls.quiet_of (HC.out _))))
      go_wp2_with fail
      go_roundw
      case rel=>exact ⟨k+1,by go_num,by omega,HT2,hid (by first | exact HD.out | exact dr_more HD.out _ | (rw [dd];exact dr_more HD.out _) | (rw [dd,dd];exact dr_more HD.out _) | exact ⟨_,rfl⟩ | exact ⟨_,dd⟩)⟩
      case measure=>simp [intOf];omega
     ·have hbd:(d != 0)=true:=by simp [hd0]
      have HF:=hid (eqLL_ne (xs:=rows) (ys:=rows') (i:=k) (fun e=>hd0 (by rw [← HI.out.1,e];exact cmpR_s7 _)))
      have H0:=hid hd0;clear hd0
      go_wp2_with fail
      go_quiet ((go_at_call 33;exact (Calls.quiet_of (HC.out _))))
      go_wp2_with fail
      go_ret
      exact ⟨by rw [HF.out];rfl,HBR.out _⟩
    ·have HF:=hid (eqLL_true (xs:=rows) (ys:=rows') (by rw [HL.out.1,HL.out.2]) (by rw [HL.out.1];intro i hi;exact HT.out i (by omega)))
     go_wp2_with fail
     go_ret
     exact ⟨by rw [HF.out];rfl,HBR.out 0⟩
  ·have hbn:((n:Int) != (n':Int))=true:=by rw [bne_iff_ne];omega
   have HF:=hid (eqLL_len (xs:=rows) (ys:=rows') (by rw [HL.out.1,HL.out.2];exact hn))
   have HN:=hid hn;clear hn
   go_enter Try.func31,Try.ntmps31
   go_wp2_with fail
   go_ret
   exact ⟨by rw [HF.out];rfl,belA⟩
 ·have hb:(ar != ar')=true:=by simp [he]
  have hE:eqT ar ar' rows rows'=false:=by unfold eqT;simp [he]
  rw [hE]
  have HE:=hid (And.intro he hE);clear he hE
  go_enter Try.func31,Try.ntmps31
  go_wp2_with fail
  go_ret
  exact ⟨rfl,belA⟩
end Go.Proofs.Ytfobmfngbfbfdaa
namespace Go.Proofs.Ytfobmfngbfbfdaa
set_option linter.unusedSimpArgs false
set_option linter.unusedVariables false
open Go.RowKit
noncomputable def eqIt (ar ar':Int) (rows rows':List (List Int)) (lw lw' gh gh' ps ps':List Int):Bool:=eqT ar ar' rows rows' && eqL lw lw' && eqL gh gh' && eqL ps ps'
set_option maxRecDepth 100000 in
set_option maxHeartbeats 6400000 in
theorem specEqIt {fz fz':Bool} {lo hi lo' hi':Nat} (ar:Int) (a:Option Addr) (n:Nat) (c:Nat) (rows:List (List Int)) (la:Option Addr) (ln:Nat) (lc:Nat) (lw:List Int) (ga:Option Addr) (gn:Nat) (gc:Nat) (gh:List Int) (pa:Option Addr) (pn:Nat) (pc:Nat) (ps:List Int) (ar':Int) (a':Option Addr) (n':Nat) (c':Nat) (rows':List (List Int)) (la':Option Addr) (ln':Nat) (lc':Nat) (lw':List Int) (ga':Option Addr) (gn':Nat) (gc':Nat) (gh':List Int) (pa':Option Addr) (pn':Nat) (pc':Nat) (ps':List Int) (w:World)
 (hI:IterA fz lo hi w ar a n c rows la ln lc lw ga gn gc gh pa pn pc ps) (hh:hi≤w.heap.size) (hJ:IterA fz' lo' hi' w ar' a' n' c' rows' la' ln' lc' lw' ga' gn' gc' gh' pa' pn' pc' ps') (hh':hi'≤w.heap.size) :
 Calls Try.prog 9 #[iterV ar a n c la ln lc ga gn gc pa pn pc,iterV ar' a' n' c' la' ln' lc' ga' gn' gc' pa' pn' pc'] w (Leaves w (.bool (eqIt ar ar' rows rows' lw lw' gh gh' ps ps'))):=by
 obtain ⟨W,hW⟩:∃ W,W=(w.alloc (.cells #[.int .i64 ar,.slice a n c,.slice la ln lc,.slice ga gn gc,.slice pa pn pc] 29)).alloc (.cells #[.int .i64 ar',.slice a' n' c',.slice la' ln' lc',.slice ga' gn' gc',.slice pa' pn' pc'] 29):=⟨_,rfl⟩
 have hBW:Below w.heap.size w W:=by rw [hW];exact belA
 have hz:w.heap.size+1<W.heap.size:=by rw [hW];simp
 have c0:∀ x:Later W.heap.size W,x.w.cell? ⟨w.heap.size,0,none⟩=some (.int .i64 ar):=fun x=>x.cell (by rw [hW];first | (go_simp;done) | (simp [World.cell?];done)) (by omega)
 have c1:∀ x:Later W.heap.size W,x.w.cell? ⟨w.heap.size,1,none⟩=some (.slice a n c):=fun x=>x.cell (by rw [hW];first | (go_simp;done) | (simp [World.cell?];done)) (by omega)
 have c2:∀ x:Later W.heap.size W,x.w.cell? ⟨w.heap.size,2,none⟩=some (.slice la ln lc):=fun x=>x.cell (by rw [hW];first | (go_simp;done) | (simp [World.cell?];done)) (by omega)
 have c3:∀ x:Later W.heap.size W,x.w.cell? ⟨w.heap.size,3,none⟩=some (.slice ga gn gc):=fun x=>x.cell (by rw [hW];first | (go_simp;done) | (simp [World.cell?];done)) (by omega)
 have c4:∀ x:Later W.heap.size W,x.w.cell? ⟨w.heap.size,4,none⟩=some (.slice pa pn pc):=fun x=>x.cell (by rw [hW];first | (go_simp;done) | (simp [World.cell?];done)) (by omega)
 have d0:∀ x:Later W.heap.size W,x.w.cell? ⟨w.heap.size+1,0,none⟩=some (.int .i64 ar'):=fun x=>x.cell (by rw [hW];first | (go_simp;done) | (simp [World.cell?];done)) (by omega)
 have d1:∀ x:Later W.heap.size W,x.w.cell? ⟨w.heap.size+1,1,none⟩=some (.slice a' n' c'):=fun x=>x.cell (by rw [hW];first | (go_simp;done) | (simp [World.cell?];done)) (by omega)
 have d2:∀ x:Later W.heap.size W,x.w.cell? ⟨w.heap.size+1,2,none⟩=some (.slice la' ln' lc'):=fun x=>x.cell (by rw [hW];first | (go_simp;done) | (simp [World.cell?];done)) (by omega)
 have d3:∀ x:Later W.heap.size W,x.w.cell? ⟨w.heap.size+1,3,none⟩=some (.slice ga' gn' gc'):=fun x=>x.cell (by rw [hW];first | (go_simp;done) | (simp [World.cell?];done)) (by omega)
 have d4:∀ x:Later W.heap.size W,x.w.cell? ⟨w.heap.size+1,4,none⟩=some (.slice pa' pn' pc'):=fun x=>x.cell (by rw [hW];first | (go_simp;done) | (simp [World.cell?];done)) (by omega)
 have hIW:=beIter hI hBW hh
 have hJW:=beIter hJ hBW hh'
 have hsz:∀ x:Later W.heap.size W,hi≤x.w.heap.size∧hi'≤x.w.heap.size:=fun x=>by have:=x.size;omega
 have hIX:=fun x:Later W.heap.size W=>beIter hIW x.be (by omega)
 have hJX:=fun x:Later W.heap.size W=>beIter hJW x.be (by omega)
 obtain ⟨e1,he1⟩:∃ e,eqT ar ar' rows rows'=e:=⟨_,rfl⟩
 obtain ⟨e2,he2⟩:∃ e,eqL lw lw'=e:=⟨_,rfl⟩
 obtain ⟨e3,he3⟩:∃ e,eqL gh gh'=e:=⟨_,rfl⟩
 obtain ⟨e4,he4⟩:∃ e,eqL ps ps'=e:=⟨_,rfl⟩
 have HR:=hid (fun (x:Later W.heap.size W) (r:Int) (p:Option Addr) (q s:Nat)=>later_of x (Nat.le_refl _) (specAsRel r p q s x.w))
 have HC1:=hid (fun x:Later W.heap.size W=>later_of x (Nat.le_refl _) (by have:=specEqRel ar ar' a a' n c n' c' rows rows' x.w (hIX x).1.2 (hsz x).1 (hJX x).1.2 (hsz x).2;rwa [he1] at this))
 obtain ⟨d2,hd2⟩:∃ d,cmpR lw lw'=d:=⟨_,rfl⟩
 have hdb2:(d2 == 0)=e2:=by rw [← hd2,cmpR_eqL];exact he2
 have HC2:=hid (fun x:Later W.heap.size W=>later_gives x (Nat.le_refl _) (by have:=specCmpR la la' ln lc ln' lc' lw lw' x.w (hIX x).2.1 (hJX x).2.1;rwa [hd2] at this))
 obtain ⟨d3,hd3⟩:∃ d,cmpR gh gh'=d:=⟨_,rfl⟩
 have hdb3:(d3 == 0)=e3:=by rw [← hd3,cmpR_eqL];exact he3
 have HC3:=hid (fun x:Later W.heap.size W=>later_gives x (Nat.le_refl _) (by have:=specCmpR ga ga' gn gc gn' gc' gh gh' x.w (hIX x).2.2.1 (hJX x).2.2.1;rwa [hd3] at this))
 obtain ⟨d4,hd4⟩:∃ d,cmpR ps ps'=d:=⟨_,rfl⟩
 have hdb4:(d4 == 0)=e4:=by rw [← hd4,cmpR_eqL];exact he4
 have HC4:=hid (fun x:Later W.heap.size W=>later_gives x (Nat.le_refl _) (by have:=specCmpR pa pa' pn pc pn' pc' ps ps' x.w (hIX x).2.2.2 (hJX x).2.2.2;rwa [hd4] at this))
 have HF:Hid (eqIt ar ar' rows rows' lw lw' gh gh' ps ps'=(e1 && e2 && e3 && e4)):=hid (by unfold eqIt;rw [he1,he2,he3,he4])
 have HDD:=hid (And.intro hd2 (And.intro hd3 hd4));clear hd2 hd3 hd4
 have HW:=hid (And.intro hW (And.intro hBW (And.intro he1 (And.intro he2 (And.intro he3 he4)))));clear hW hBW he1 he2 he3 he4 hIW hJW hIX hJX hsz hI hJ
 cases e1 with
 | false =>
  go_enter Try.func9,Try.ntmps9
  go_upto_region 1 with fail
  rw [← HW.out.1]
  refine wp_region_later (B:=W.heap.size) (w0:=W) (by kernel_rfl) (by kernel_rfl) (Below.refl _ _) ?_
  repeat (any_goals (first | go_big_quiet_step ((first | (go_at_call 32;exact HR.out _ _ _ _ _) | (go_at_call 31;exact HC1.out _) | (go_at_call 33;with_reducible first | exact HC2.out _ | exact HC3.out _ | exact HC4.out _))) | quiet_step ((first | (go_at_call 32;exact HR.out _ _ _ _ _) | (go_at_call 31;exact HC1.out _) | (go_at_call 33;with_reducible first | exact HC2.out _ | exact HC3.out _ | exact HC4.out _)))))
  refine wpQuiet_nil ?_
  intro _ hw'
  obtain ⟨nq,hw''⟩:=hw'
  subst hw''
  have HQ:=hid nq.be
  generalize nq.w=wq at *
  go_wp2_with fail
  go_ret
  exact ⟨by rw [HF.out];rfl,HW.out.2.1.trans (HQ.out.mono (by omega))⟩
 | true =>
  cases e2 with
  | false =>
   go_enter Try.func9,Try.ntmps9
   go_upto_region 1 with fail
   rw [← HW.out.1]
   refine wp_region_later (B:=W.heap.size) (w0:=W) (by kernel_rfl) (by kernel_rfl) (Below.refl _ _) ?_
   repeat (any_goals (first | go_big_quiet_step ((first | (go_at_call 32;exact HR.out _ _ _ _ _) | (go_at_call 31;exact HC1.out _) | (go_at_call 33;with_reducible first | exact HC2.out _ | exact HC3.out _ | exact HC4.out _))) | quiet_step ((first | (go_at_call 32;exact HR.out _ _ _ _ _) | (go_at_call 31;exact HC1.out _) | (go_at_call 33;with_reducible first | exact HC2.out _ | exact HC3.out _ | exact HC4.out _)))))
   refine wpQuiet_nil ?_
   intro _ hw'
   obtain ⟨nq,hw''⟩:=hw'
   subst hw''
   have HQ:=hid nq.be
   generalize nq.w=wq at *
   go_wp2_with fail
   go_ret
   exact ⟨by rw [HF.out];rfl,HW.out.2.1.trans (HQ.out.mono (by omega))⟩
  | true =>
   cases e3 with
   | false =>
    go_enter Try.func9,Try.ntmps9
    go_upto_region 1 with fail
    rw [← HW.out.1]
    refine wp_region_later (B:=W.heap.size) (w0:=W) (by kernel_rfl) (by kernel_rfl) (Below.refl _ _) ?_
    repeat (any_goals (first | go_big_quiet_step ((first | (go_at_call 32;exact HR.out _ _ _ _ _) | (go_at_call 31;exact HC1.out _) | (go_at_call 33;with_reducible first | exact HC2.out _ | exact HC3.out _ | exact HC4.out _))) | quiet_step ((first | (go_at_call 32;exact HR.out _ _ _ _ _) | (go_at_call 31;exact HC1.out _) | (go_at_call 33;with_reducible first | exact HC2.out _ | exact HC3.out _ | exact HC4.out _)))))
    refine wpQuiet_nil ?_
    intro _ hw'
    obtain ⟨nq,hw''⟩:=hw'
    subst hw''
    have HQ:=hid nq.be
    generalize nq.w=wq at *
    go_wp2_with fail
    go_ret
    exact ⟨by rw [HF.out];rfl,HW.out.2.1.trans (HQ.out.mono (by omega))⟩
   | true =>
    cases e4 with
    | false =>
     go_enter Try.func9,Try.ntmps9
     go_upto_region 1 with fail
     rw [← HW.out.1]
     refine wp_region_later (B:=W.heap.size) (w0:=W) (by kernel_rfl) (by kernel_rfl) (Below.refl _ _) ?_
     repeat (any_goals (first | go_big_quiet_step ((first | (go_at_call 32;exact HR.out _ _ _ _ _) | (go_at_call 31;exact HC1.out _) | (go_at_call 33;with_reducible first | exact HC2.out _ | exact HC3.out _ | exact HC4.out _))) | quiet_step ((first | (go_at_call 32;exact HR.out _ _ _ _ _) | (go_at_call 31;exact HC1.out _) | (go_at_call 33;with_reducible first | exact HC2.out _ | exact HC3.out _ | exact HC4.out _)))))
     refine wpQuiet_nil ?_
     intro _ hw'
     obtain ⟨nq,hw''⟩:=hw'
     subst hw''
     have HQ:=hid nq.be
     generalize nq.w=wq at *
     go_wp2_with fail
     go_ret
     exact ⟨by rw [HF.out];rfl,HW.out.2.1.trans (HQ.out.mono (by omega))⟩
    | true =>
     go_enter Try.func9,Try.ntmps9
     go_upto_region 1 with fail
     rw [← HW.out.1]
     refine wp_region_later (B:=W.heap.size) (w0:=W) (by kernel_rfl) (by kernel_rfl) (Below.refl _ _) ?_
     repeat (any_goals (first | go_big_quiet_step ((first | (go_at_call 32;exact HR.out _ _ _ _ _) | (go_at_call 31;exact HC1.out _) | (go_at_call 33;with_reducible first | exact HC2.out _ | exact HC3.out _ | exact HC4.out _))) | quiet_step ((first | (go_at_call 32;exact HR.out _ _ _ _ _) | (go_at_call 31;exact HC1.out _) | (go_at_call 33;with_reducible first | exact HC2.out _ | exact HC3.out _ | exact HC4.out _)))))
     refine wpQuiet_nil ?_
     intro _ hw'
     obtain ⟨nq,hw''⟩:=hw'
     subst hw''
     have HQ:=hid nq.be
     generalize nq.w=wq at *
     go_wp2_with fail
     go_ret
     exact ⟨by rw [HF.out];rfl,HW.out.2.1.trans (HQ.out.mono (by omega))⟩
end Go.Proofs.Ytfobmfngbfbfdaa
namespace Go.Proofs.Ytfobmfngbfbfdaa
set_option linter.unusedSimpArgs false
set_option linter.unusedVariables false
open Go.RowKit
theorem firstIx_sq (p:Nat→Prop) (n:Nat):(firstIx p n<n→p (firstIx p n))∧∀ j,j<firstIx p n→¬ p j:=by
 induction n with
 | zero=>exact ⟨fun h=>by simp [firstIx] at h,fun j hj=>by simp [firstIx] at hj⟩
 | succ n ih =>
  by_cases h1:firstIx p n<n
  ·have e:firstIx p (n+1)=firstIx p n:=by simp only [firstIx];rw [if_pos h1]
   rw [e];exact ⟨fun _=>ih.1 h1,ih.2⟩
  ·have h0:=firstIx_le p n
   have hn:firstIx p n=n:=by omega
   rw [hn] at ih
   by_cases h2:p n
   ·have e:firstIx p (n+1)=n:=by simp only [firstIx];rw [if_neg h1,if_pos h2]
    rw [e];exact ⟨fun _=>h2,ih.2⟩
   ·have e:firstIx p (n+1)=n+1:=by simp only [firstIx];rw [if_neg h1,if_neg h2]
    rw [e];exact ⟨fun h=>by omega,fun j hj=>by
     by_cases ej:j=n
     ·subst ej;exact h2
     ·exact ih.2 j (by omega)⟩
def kx (rows:List (List Int)) (i k:Nat):Int:=ix (rx rows i) k
noncomputable def grpEnd (rows:List (List Int)) (k p hi:Nat):Nat:=firstIx (fun i=>p≤i∧kx rows i k ≠ kx rows p k) hi
theorem grpEnd_le (rows:List (List Int)) (k p hi:Nat):grpEnd rows k p hi≤hi:=firstIx_le _ _
theorem grpEnd_eq {rows:List (List Int)} {k p hi m:Nat} (hm:m≤hi) (hpm:p≤m) (h:∀ i,p≤i→i<m→kx rows i k=kx rows p k) (he:m<hi→kx rows m k ≠ kx rows p k):grpEnd rows k p hi=m:=by
 unfold grpEnd
 by_cases g:m<hi
 ·exact firstIx_eq (p:=fun i=>p≤i∧kx rows i k ≠ kx rows p k) g ⟨hpm,he g⟩ fun j hj hn=>hn.2 (h j hn.1 hj)
 ·obtain rfl:m=hi:=by omega
  exact firstIx_none fun i hi' hn=>hn.2 (h i hn.1 hi')
theorem grpEnd_gt {rows:List (List Int)} {k p hi:Nat} (hp:p<hi):p<grpEnd rows k p hi:=by
 have hs:=firstIx_sq (fun i=>p≤i∧kx rows i k ≠ kx rows p k) hi
 have hl:=firstIx_le (fun i=>p≤i∧kx rows i k ≠ kx rows p k) hi
 show p<firstIx _ _
 by_cases g:firstIx (fun i=>p≤i∧kx rows i k ≠ kx rows p k) hi<hi
 ·have h1:=hs.1 g
  by_cases e:firstIx (fun i=>p≤i∧kx rows i k ≠ kx rows p k) hi=p
  ·have h2:=h1.2;rw [e] at h2;exact absurd rfl h2
  ·have:=h1.1;omega
 ·omega
def px (pos:List Int) (k:Nat):Nat:=(ix pos k).toNat
noncomputable def bnd (rows:List (List Int)) (pos:List Int):Nat→Nat×Nat
 | 0=>(0,rows.length)
 | k+1=>(px pos k,grpEnd rows k (px pos k) (bnd rows pos k).2)
def LevOK (rows:List (List Int)) (low high pos:List Int) (n k:Nat):Prop :=
 ix low k=(bnd rows pos k).1∧ix high k=(bnd rows pos k).2∧((bnd rows pos k).1≤ix pos k∧ix pos k≤(bnd rows pos k).2)∧(ix pos k=(bnd rows pos k).2→k+1=n)∧(((bnd rows pos k).1:Int)<ix pos k→ix pos k<(bnd rows pos k).2→kx rows (px pos k - 1) k ≠ kx rows (px pos k) k)
theorem lev_px {rows:List (List Int)} {low high pos:List Int} {n k:Nat} (h:LevOK rows low high pos n k):ix pos k=(px pos k:Nat):=by
 have:=h.2.2.1.1;unfold px;omega
theorem bnd_ok {rows:List (List Int)} {low high pos:List Int} {n k:Nat} (hk:k<n) (h:∀ j,j<k→LevOK rows low high pos n j):(bnd rows pos k).1≤(bnd rows pos k).2∧(bnd rows pos k).2≤rows.length:=by
 induction k with
 | zero=>exact ⟨Nat.zero_le _,Nat.le_refl _⟩
 | succ k ih =>
  have h1:=ih (by omega) (fun j hj=>h j (by omega))
  have h2:=h k (by omega)
  have h3:=lev_px h2
  have h4:px pos k<(bnd rows pos k).2:=by
   have g1:=h2.2.2.1.2;have g2:=h2.2.2.2.1
   by_cases e:ix pos k=(bnd rows pos k).2
   ·have:=g2 e;omega
   ·omega
  simp only [bnd]
  exact ⟨Nat.le_of_lt (grpEnd_gt h4),Nat.le_trans (grpEnd_le _ _ _ _) h1.2⟩
open Classical in
noncomputable def validIt (ar:Int) (rows:List (List Int)) (low high pos:List Int):Bool :=
 decide (validR ar rows=true∧low.length=pos.length∧high.length=pos.length∧(pos.length:Int)≤ar∧∀ k,k<pos.length→LevOK rows low high pos pos.length k)
section
variable {ar:Int} {rows:List (List Int)} {low high pos:List Int}
theorem validIt_out (h:validIt ar rows low high pos=true):validR ar rows=true∧low.length=pos.length∧high.length=pos.length∧(pos.length:Int)≤ar∧∀ k,k<pos.length→LevOK rows low high pos pos.length k:=by
 simpa only [validIt,decide_eq_true_eq] using h
theorem validIt_mk (h1:validR ar rows=true) (h2:low.length=pos.length) (h3:high.length=pos.length) (h4:(pos.length:Int)≤ar) (h5:∀ k,k<pos.length→LevOK rows low high pos pos.length k):validIt ar rows low high pos=true:=by
 simp only [validIt,decide_eq_true_eq];exact ⟨h1,h2,h3,h4,h5⟩
theorem validIt_no (h:¬ (validR ar rows=true∧low.length=pos.length∧high.length=pos.length∧(pos.length:Int)≤ar)):validIt ar rows low high pos=false:=by
 simp only [validIt,decide_eq_false_iff_not];exact fun g=>h ⟨g.1,g.2.1,g.2.2.1,g.2.2.2.1⟩
theorem validIt_lev {k:Nat} (hk:k<pos.length) (h:¬ LevOK rows low high pos pos.length k):validIt ar rows low high pos=false:=by
 simp only [validIt,decide_eq_false_iff_not];exact fun g=>h (g.2.2.2.2 k hk)
noncomputable def atEndF (ar:Int) (rows:List (List Int)) (low high pos:List Int):Bool:=validIt ar rows low high pos && decide (0<pos.length∧ix pos (pos.length - 1)=ix high (pos.length - 1))
noncomputable def standsF (ar:Int) (rows:List (List Int)) (low high pos:List Int):Bool:=validIt ar rows low high pos && (decide (0<pos.length) && !atEndF ar rows low high pos)
theorem stands_out (h:standsF ar rows low high pos=true):validIt ar rows low high pos=true∧∃ l,pos.length=l+1∧ix pos l=(px pos l:Nat)∧ix high l=((bnd rows pos l).2:Nat)∧px pos l<(bnd rows pos l).2∧(bnd rows pos l).2≤rows.length∧(l:Int)<ar∧∀ i,i<rows.length→((rx rows i).length:Int)=ar:=by
 simp only [standsF,Bool.and_eq_true,decide_eq_true_eq,Bool.not_eq_true'] at h
 obtain ⟨hv,hp,he⟩:=h
 obtain ⟨v1,v2,v3,v4,v5⟩:=validIt_out hv
 refine ⟨hv,pos.length - 1,by omega,?_⟩
 have hl:=v5 (pos.length - 1) (by omega)
 have hb:=bnd_ok (n:=pos.length) (k:=pos.length - 1) (by omega) (fun j hj=>v5 j (by omega))
 have hpx:=lev_px hl
 refine ⟨hpx,hl.2.1,?_,hb.2,by omega,fun i hi=>((validR_out v1).2.2 i hi).1⟩
 simp only [atEndF,hv,Bool.true_and,decide_eq_false_iff_not] at he
 have h1:=hl.2.2.1.2
 have h2:=hl.2.1
 by_cases e:px pos (pos.length - 1)<(bnd rows pos (pos.length - 1)).2
 ·exact e
 ·exact absurd ⟨hp,by omega⟩ he
end
end Go.Proofs.Ytfobmfngbfbfdaa
namespace Go.Proofs.Ytfobmfngbfbfdaa
set_option linter.unusedSimpArgs false
set_option linter.unusedVariables false
open Go.RowKit
set_option maxHeartbeats 3200000 in
theorem specValidRel {fz:Bool} {lo hi:Nat} (ar:Int) (a:Option Addr) (n c:Nat) (rows:List (List Int)) (w:World) (hI:RowsA fz lo hi w a n c rows) (hh:hi≤w.heap.size) (har:I64 ar) :
 Calls Try.prog 53 #[trieV ar a n c] w (Leaves w (.bool (validR ar rows))):=by
 have HAR:=hid har;clear har
 have hl:=hI.len
 have hs:=hI.small
 have HL:=hid hl;clear hl
 by_cases hw:0≤ar∧ar≤5
 ·have hd:decide (0≤ar∧ar≤5)=true:=by simpa using hw
  by_cases hn:n≤4000
  ·go_enter Try.func53,Try.ntmps53
   go_wp2_with fail
   refine (specIn ar 0 5 _).mono ?_
   rintro e w1 ⟨rfl,m1,hw1⟩
   rw [hd]
   have hc0:w1.cell? ⟨w.heap.size,0,none⟩=some (.int .i64 ar):=by rw [hw1];simp
   have hc1:w1.cell? ⟨w.heap.size,1,none⟩=some (.slice a n c):=by rw [hw1];simp
   have hb1:Below w.heap.size w w1:=by rw [hw1];exact belA
   have hI1:=hI.be intsOK hb1 hh
   have HB:=hid (And.intro hb1 hI1);clear hw1 hI1 hb1
   go_wp2_with fail
   go_loopw [3] (fun i wr=>∃ k:Nat,i=.int .i64 k∧k≤n∧Hid (∀ i,i<k→RowOK ar rows i)∧Hid (∃ m,wr=w1.drewN m)) (fun i _=>n - (intOf i).toNat)
   case atStart=>exact ⟨0,rfl,by omega,hid (fun i hi=>by omega),hid ⟨0,rfl⟩⟩
   case round =>
    obtain ⟨k,rfl,hk,HT,HD⟩:=hrel
    have hc0r:wr.cell? ⟨w.heap.size,0,none⟩=some (.int .i64 ar):=by obtain ⟨m,rfl⟩:=HD.out;exact hc0
    have hc1r:wr.cell? ⟨w.heap.size,1,none⟩=some (.slice a n c):=by obtain ⟨m,rfl⟩:=HD.out;exact hc1
    have hbr:∀ q,Below w.heap.size w (wr.drewN q):=by obtain ⟨m,rfl⟩:=HD.out;intro q;exact below_drewN (below_drewN HB.out.1 m) q
    have HBR:=hid hbr;clear hbr
    by_cases hlt:k<n
    ·have hIr:RowsA fz lo hi wr a n c rows:=HB.out.2.keep intsOK (keeps_dr lo hi HD.out)
     obtain ⟨b,off,rfl⟩:=hI.some (by omega)
     obtain ⟨_,_,ra,rn,rc,hc,hr,_⟩:=hIr.at hlt
     have hrl:=hr.len
     have hrs:=hr.small
     have HRL:=hid hrl;clear hrl
     have HR:=hid hr;clear hr
     have HI:=hid hI;clear hI
     by_cases he:(rn:Int)=ar
     ·have hb:((rn:Int) != ar)=false:=by simp [he]
      have HE:=hid he;clear he
      obtain ⟨vb,hvb⟩:∃ vb,valB (rx rows k)=vb:=⟨_,rfl⟩
      have HVB:=hid hvb;clear hvb
      have hcV:∀ w',IntsA fz lo hi w' ra rn rc (rx rows k)→Calls Try.prog 61 #[.slice ra rn rc] w' (Gives w' (.bool vb)):=fun w' h=>by have:=specVals ra rn rc _ w' h;rwa [HVB.out] at this
      have HCV:=hid hcV;clear hcV
      cases vb with
      | false =>
       have HF:=hid (validR_row (ar:=ar) (rows:=rows) (i:=k) (by rw [HL.out];exact hlt) (by rintro ⟨_,h2,_⟩;rw [HVB.out] at h2;cases h2))
       have HIR:=hid hIr;clear hIr
       go_wp2_with fail
       go_quiet ((go_at_call 61;exact (Calls.quiet_of (HCV.out _ (HR.out.drewN _)))))
       go_wp2_with fail
       go_ret
       exact ⟨by rw [HF.out];rfl,HBR.out _⟩
      | true =>
       by_cases h0:k=0
       ·have HT2:Hid (∀ i,i<k+1→RowOK ar rows i):=hid (fun i hi=>by
         obtain rfl:i=k:=by omega
         exact ⟨by rw [HRL.out];exact HE.out,HVB.out,fun h=>by omega⟩)
        have HIR:=hid hIr;clear hIr
        have h0':decide ((0:Int)<k)=false:=by simp;omega
        have h0'':¬ 0<k:=by omega
        have H0:=hid h0;clear h0
        go_wp2_with fail
        go_quiet ((go_at_call 61;exact (Calls.quiet_of (HCV.out _ (HR.out.drewN _)))))
        go_wp2_with fail
        go_roundw
        case rel=>exact ⟨k+1,by go_num,by omega,HT2,hid (by first | exact HD.out | exact dr_more HD.out _ | (rw [dd];exact dr_more HD.out _) | (rw [dd,dd];exact dr_more HD.out _) | exact ⟨_,rfl⟩ | exact ⟨_,dd⟩)⟩
        case measure=>simp [intOf];omega
       ·obtain ⟨j,rfl⟩:∃ j,k=j+1:=⟨k - 1,by omega⟩
        obtain ⟨_,_,qa,qn,qc,hcq,hq,_⟩:=hIr.at (show j<n by omega)
        have HQ:=hid hq;clear hq
        have HIR:=hid hIr;clear hIr
        clear h0
        obtain ⟨d,hde⟩:∃ d,cmpR (rx rows j) (rx rows (j+1))=d:=⟨_,rfl⟩
        have HDE:=hid hde;clear hde
        have hcC:∀ w',IntsA fz lo hi w' qa qn qc (rx rows j)→IntsA fz lo hi w' ra rn rc (rx rows (j+1))→Calls Try.prog 33 #[.slice qa qn qc,.slice ra rn rc] w' (Gives w' (.int .i64 d)):=fun w' h h'=>by have:=specCmpR qa ra qn qc rn rc _ _ w' h h';rwa [HDE.out] at this
        have HCC:=hid hcC;clear hcC
        have h0':decide ((0:Int)<(j:Int)+1)=true:=by simp
        have h0'':IntKind.i64.wrap ((j:Int)+1 - 1)=j:=by rw [show (j:Int)+1 - 1=j by omega];exact IntWalk.i64_in _ (by omega)
        by_cases hd0:d<0
        ·have HT2:Hid (∀ i,i<j+1+1→RowOK ar rows i):=hid (fun i hi=>by
          by_cases e:i=j+1
          ·subst e;exact ⟨by rw [HRL.out];exact HE.out,HVB.out,fun _=>by show cmpR (rx rows j) _<0;rw [HDE.out];exact hd0⟩
          ·exact HT.out i (by omega))
         go_wp2_with fail
         go_quiet (first
          | (go_at_call 61;exact (Calls.quiet_of (HCV.out _ (HR.out.drewN _))))
          | (go_at_call 33;exact (Calls.quiet_of (HCC.out _ (HQ.out.drewN _) (HR.out.drewN _)))))
         go_wp2_with fail
         go_roundw
         case rel=>exact ⟨j+1+1,by go_num,by omega,HT2,hid (by first | exact HD.out | exact dr_more HD.out _ | (rw [dd];exact dr_more HD.out _) | (rw [dd,dd];exact dr_more HD.out _) | exact ⟨_,rfl⟩ | exact ⟨_,dd⟩)⟩
         case measure=>simp [intOf];omega
        ·have HF:=hid (validR_row (ar:=ar) (rows:=rows) (i:=j+1) (by rw [HL.out];exact hlt) (by rintro ⟨_,_,h2⟩;have:=h2 (by omega);simp only [Nat.add_sub_cancel] at this;rw [HDE.out] at this;exact hd0 this))
         go_wp2_with fail
         go_quiet (first
          | (go_at_call 61;exact (Calls.quiet_of (HCV.out _ (HR.out.drewN _))))
          | (go_at_call 33;exact (Calls.quiet_of (HCC.out _ (HQ.out.drewN _) (HR.out.drewN _)))))
         go_wp2_with fail
         go_ret
         exact ⟨by rw [HF.out];rfl,HBR.out _⟩
     ·have hb:((rn:Int) != ar)=true:=by simp [he]
      have HF:=hid (validR_row (ar:=ar) (rows:=rows) (i:=k) (by rw [HL.out];exact hlt) (by rintro ⟨h2,_⟩;rw [HRL.out] at h2;exact he h2))
      have HE:=hid he;clear he
      have HIR:=hid hIr;clear hIr
      go_wp2_with fail
      go_quiet (fail)
      go_wp2_with fail
      go_ret
      exact ⟨by rw [HF.out];rfl,HBR.out _⟩
    ·have HF:=hid (validR_true (ar:=ar) (rows:=rows) hw (by rw [HL.out];exact hn) (by rw [HL.out];intro i hi;exact HT.out i (by omega)))
     go_wp2_with fail
     go_ret
     exact ⟨by rw [HF.out];rfl,HBR.out 0⟩
  ·have HF:=hid (validR_big (ar:=ar) (rows:=rows) (by rw [HL.out];exact hn))
   go_enter Try.func53,Try.ntmps53
   go_wp2_with fail
   refine (specIn ar 0 5 _).mono ?_
   rintro e w1 ⟨rfl,m1,rfl⟩
   rw [hd]
   go_wp2_with fail
   go_ret
   exact ⟨by rw [HF.out];rfl,belA⟩
 ·have hd:decide (0≤ar∧ar≤5)=false:=by simpa using hw
  have HF:=hid (validR_ar (rows:=rows) hw)
  go_enter Try.func53,Try.ntmps53
  go_wp2_with fail
  refine (specIn ar 0 5 _).mono ?_
  rintro e w1 ⟨rfl,m1,rfl⟩
  rw [hd]
  go_wp2_with fail
  go_ret
  exact ⟨by rw [HF.out];rfl,belA⟩
set_option maxHeartbeats 400000 in
theorem specValidTrie {fz:Bool} {lo hi:Nat} (ar:Int) (a:Option Addr) (n c:Nat) (rows:List (List Int)) (w:World) (hI:RowsA fz lo hi w a n c rows) (hh:hi≤w.heap.size) (har:I64 ar) :
 Calls Try.prog 38 #[trieV ar a n c] w (Leaves w (.bool (validR ar rows))):=by
 have HAR:=hid har;clear har
 go_enter Try.func38,Try.ntmps38
 go_wp2_with fail
 refine (specAsRel ar a n c _).mono ?_
 rintro e w1 ⟨rfl,hb1⟩
 have hb2:Below w.heap.size w w1:=Below.trans belA (hb1.mono leA)
 have hz:=hb2.size
 go_wp2_with fail
 refine (specValidRel ar a n c rows _ (hI.be intsOK hb2 hh) (by omega) HAR.out).mono ?_
 rintro e w2 ⟨rfl,hb3⟩
 go_wp2_with fail
 go_ret
 exact ⟨rfl,Below.calm hb2 hb3⟩
end Go.Proofs.Ytfobmfngbfbfdaa
namespace Go.Proofs.Ytfobmfngbfbfdaa
set_option linter.unusedSimpArgs false
set_option linter.unusedVariables false
open Go.RowKit
theorem rowsKey {fz:Bool} {lo hi:Nat} {w:World} {b off n c:Nat} {rows:List (List Int)} (h:RowsA fz lo hi w (some ⟨b,off,none⟩) n c rows) {i k:Nat} (hi':i<n) (hk:k<(rx rows i).length) :
 ∃ b2 off2 rn rc,w.cell? ⟨b,off+i,none⟩=some (.slice (some ⟨b2,off2,none⟩) rn rc)∧k<rn∧rn≤rc∧rn≤9223372036854775807∧w.cell? ⟨b2,off2+k,none⟩=some (.int .i64 (kx rows i k))∧I64 (kx rows i k):=by
 obtain ⟨_,_,ra,rn,rc,hc,hr,_⟩:=RowsA.at h hi'
 have hl:=hr.len
 obtain ⟨b2,off2,rfl,_,_,hc2,_⟩:=hr.open (by omega)
 exact ⟨b2,off2,rn,rc,hc,by omega,hr.2.1,hr.small,hc2 k (by omega),hr.at (by omega)⟩
set_option maxHeartbeats 1600000 in
theorem implGroupEnd {fz:Bool} {lo hi:Nat} (ar:Int) (a:Option Addr) (n c:Nat) (rows:List (List Int)) (la:Option Addr) (ln lc:Nat) (ga:Option Addr) (gn gc:Nat) (pa:Option Addr) (pn pc:Nat) (l p h:Nat) (w:World)
 (hI:RowsA fz lo hi w a n c rows) (hh:hi≤w.heap.size) (hp:p<h) (hhn:h≤rows.length) (hrow:∀ i,i<h→l<(rx rows i).length) :
 Calls Try.prog 36 #[iterV ar a n c la ln lc ga gn gc pa pn pc,.int .i64 l,.int .i64 p,.int .i64 h] w (Leaves w (.int .i64 ((grpEnd rows l p h:Nat):Int))):=by
 have hl:=hI.len
 have hs:=hI.small
 have hhn':h≤n:=by omega
 have HL:=hid hl;clear hl hhn
 have HR:=hid hrow;clear hrow
 have hls:l≤9223372036854775807:=by
  obtain ⟨b,off,rfl⟩:=RowsA.some hI (show 0<n by omega)
  obtain ⟨_,_,rn,_,_,h1,_,h2,_⟩:=rowsKey hI (show p<n by omega) (HR.out p hp)
  omega
 go_enter Try.func36,Try.ntmps36
 have hI1:=hI.al intsOK hh (.cells #[.int .i64 ar,.slice a n c,.slice la ln lc,.slice ga gn gc,.slice pa pn pc] 29)
 obtain ⟨b,off,rfl⟩:=RowsA.some hI (show 0<n by omega)
 obtain ⟨b2,off2,rn,rc,d0,d1,d2,d3,d4,_⟩:=rowsKey hI1 (show p<n by omega) (HR.out p hp)
 generalize hv:kx rows p l=v at *
 have HV:=hid hv;clear hv
 have HI:=hid (And.intro hI hI1);clear hI hI1
 go_wp2_with fail
 go_loop [2] (fun i=>∃ q:Nat,i=.int .i64 q∧p≤q∧q≤h∧Hid (∀ i,p≤i→i<q→kx rows i l=kx rows p l)) (fun i=>h - (intOf i).toNat)
 case atStart=>exact ⟨p,rfl,Nat.le_refl _,by omega,hid (fun i h1 h2=>by omega)⟩
 case round =>
  obtain ⟨q,rfl,hq1,hq2,HT⟩:=hrel
  by_cases hlt:q<h
  ·obtain ⟨b3,off3,rn',rc',e0,e1,e2,e3,e4,_⟩:=rowsKey HI.out.2 (show q<n by omega) (HR.out q hlt)
   generalize hx:kx rows q l=x at *
   have HX:=hid hx;clear hx
   by_cases he:x=v
   ·have hb:(x == v)=true:=by simp [he]
    have HT2:Hid (∀ i,p≤i→i<q+1→kx rows i l=kx rows p l):=hid (fun i h1 h2=>by
     by_cases e:i=q
     ·subst e;rw [HX.out,HV.out];exact he
     ·exact HT.out i h1 (by omega))
    have HE:=hid he;clear he
    go_wp2_with fail
    go_round
    case rel=>exact ⟨q+1,by go_num,by omega,by omega,HT2⟩
    case measure=>simp [intOf];omega
   ·have hb:(x == v)=false:=by simp [he]
    have HF:=hid (grpEnd_eq (rows:=rows) (k:=l) (p:=p) (hi:=h) hq2 hq1 HT.out (fun _=>by rw [HX.out,HV.out];exact he))
    have HE:=hid he;clear he
    go_wp2_with fail
    go_ret
    exact ⟨by rw [HF.out];rfl,belA⟩
  ·have HF:=hid (grpEnd_eq (rows:=rows) (k:=l) (p:=p) (hi:=h) hq2 hq1 HT.out (fun h=>by omega))
   go_wp2_with fail
   go_ret
   exact ⟨by rw [HF.out];rfl,belA⟩
end Go.Proofs.Ytfobmfngbfbfdaa
namespace Go.Proofs.Ytfobmfngbfbfdaa
set_option linter.unusedSimpArgs false
set_option linter.unusedVariables false
open Go.RowKit
theorem intsAt {fz:Bool} {lo hi:Nat} {w:World} {a:Option Addr} {n c:Nat} {xs:List Int} (h:IntsA fz lo hi w a n c xs) {i:Nat} (hi':i<n) :
 ∃ b off,a=some ⟨b,off,none⟩∧w.cell? ⟨b,off+i,none⟩=some (.int .i64 (ix xs i))∧I64 (ix xs i):=by
 obtain ⟨b,off,rfl,_,_,hc,_⟩:=h.open (by omega)
 exact ⟨b,off,rfl,hc i hi',h.at hi'⟩
set_option maxRecDepth 100000 in
set_option maxHeartbeats 6400000 in
theorem implValidIt {fz:Bool} {lo hi:Nat} (ar:Int) (a:Option Addr) (n c:Nat) (rows:List (List Int)) (la:Option Addr) (ln lc:Nat) (lw:List Int) (ga:Option Addr) (gn gc:Nat) (gh:List Int) (pa:Option Addr) (pn pc:Nat) (ps:List Int) (w:World)
 (hI:IterA fz lo hi w ar a n c rows la ln lc lw ga gn gc gh pa pn pc ps) (hh:hi≤w.heap.size) :
 Calls Try.prog 11 #[iterV ar a n c la ln lc ga gn gc pa pn pc] w (Leaves w (.bool (validIt ar rows lw gh ps))):=by
 have har:=hI.1.1
 have hl1:=hI.1.2.len
 have hl2:=hI.2.1.len
 have hl3:=hI.2.2.1.len
 have hl4:=hI.2.2.2.len
 have hs1:=hI.1.2.small
 have hs2:=hI.2.1.small
 have hs3:=hI.2.2.1.small
 have hs4:=hI.2.2.2.small
 have HL:=hid (And.intro hl1 (And.intro hl2 (And.intro hl3 hl4)));clear hl1 hl2 hl3 hl4
 have HI:=hid hI;clear hI
 have HAR:=hid har;clear har
 obtain ⟨vb,hvb⟩:∃ vb,validR ar rows=vb:=⟨_,rfl⟩
 have HVB:=hid hvb;clear hvb
 cases vb with
 | false =>
  have HF:=hid (validIt_no (ar:=ar) (rows:=rows) (low:=lw) (high:=gh) (pos:=ps) (fun h=>by rw [HVB.out] at h;cases h.1))
  go_enter Try.func11,Try.ntmps11
  go_wp2_with fail
  refine (implValidTrie ar a n c rows _ (HI.out.1.2.be intsOK (B:=w.heap.size) belA hh) leA HAR.out).mono ?_
  rintro e w1 ⟨rfl,hb1⟩
  rw [HVB.out]
  have hb2:Below w.heap.size w w1:=Below.trans belA (hb1.mono leA)
  have HB:=hid hb2;clear hb1 hb2
  go_wp2_with fail
  go_ret
  exact ⟨by rw [HF.out];rfl,HB.out⟩
 | true =>
  have hno:∀ P:Prop,(¬ (lw.length=ps.length∧gh.length=ps.length∧(ps.length:Int)≤ar))→validIt ar rows lw gh ps=false:=fun _ h=>validIt_no (fun g=>h g.2)
  have HNO:=hid hno;clear hno
  go_enter Try.func11,Try.ntmps11
  go_wp2_with fail
  refine (implValidTrie ar a n c rows _ (HI.out.1.2.be intsOK (B:=w.heap.size) belA hh) leA HAR.out).mono ?_
  rintro e w1 ⟨rfl,hb1⟩
  rw [HVB.out]
  have hb2:Below w.heap.size w w1:=Below.trans belA (hb1.mono leA)
  have c0:w1.cell? ⟨w.heap.size+1,0,none⟩=some (.int .i64 ar):=(by rw [(bcell hb1).1 _ _ (by first | omega | (simp;done) | (simp;omega))];first | with_reducible assumption | (go_simp;done) | assumption | (simp [World.cell?];done))
  have c1:w1.cell? ⟨w.heap.size+1,1,none⟩=some (.slice a n c):=(by rw [(bcell hb1).1 _ _ (by first | omega | (simp;done) | (simp;omega))];first | with_reducible assumption | (go_simp;done) | assumption | (simp [World.cell?];done))
  have c2:w1.cell? ⟨w.heap.size+1,2,none⟩=some (.slice la ln lc):=(by rw [(bcell hb1).1 _ _ (by first | omega | (simp;done) | (simp;omega))];first | with_reducible assumption | (go_simp;done) | assumption | (simp [World.cell?];done))
  have c3:w1.cell? ⟨w.heap.size+1,3,none⟩=some (.slice ga gn gc):=(by rw [(bcell hb1).1 _ _ (by first | omega | (simp;done) | (simp;omega))];first | with_reducible assumption | (go_simp;done) | assumption | (simp [World.cell?];done))
  have c4:w1.cell? ⟨w.heap.size+1,4,none⟩=some (.slice pa pn pc):=(by rw [(bcell hb1).1 _ _ (by first | omega | (simp;done) | (simp;omega))];first | with_reducible assumption | (go_simp;done) | assumption | (simp [World.cell?];done))
  have hz1:w.heap.size+1<w1.heap.size:=World.block_lt_of_cell? _ _ c0
  have hI1:=beIter HI.out hb2 hh
  have HB:=hid hb2;clear hb1 hb2
  have HI1:=hid hI1;clear hI1
  by_cases e1:ln=pn
  ·by_cases e2:gn=pn
   ·by_cases e3:(pn:Int)≤ar
    ·have hb1:((ln:Int) != (pn:Int))=false:=by simp [e1]
     have hb2:((gn:Int) != (pn:Int))=false:=by simp [e2]
     have HE:=hid (And.intro e1 e2);clear e1 e2
     have hrl:∀ i k,i<n→k<pn→k<(rx rows i).length:=fun i k hi' hk=>by
      have:=((validR_out HVB.out).2.2 i (by rw [HL.out.1];exact hi')).1;omega
     have HRL:=hid hrl;clear hrl
     have hyes:(∀ k,k<pn→LevOK rows lw gh ps ps.length k)→validIt ar rows lw gh ps=true:=fun g=>validIt_mk (low:=lw) (high:=gh) (pos:=ps) HVB.out (by rw [HL.out.2.1,HL.out.2.2.2];exact HE.out.1) (by rw [HL.out.2.2.1,HL.out.2.2.2];exact HE.out.2) (by rw [HL.out.2.2.2];exact e3) (by rw [HL.out.2.2.2];rw [HL.out.2.2.2] at g;exact g)
     have HYES:=hid hyes;clear hyes
     go_wp2_with fail
     go_quiet (fail)
     go_wp2_with fail
     go_loopw [5,6,7] (fun s5 s6 s7 wr=>∃ k l h:Nat,s7=.int .i64 k∧s5=.int .i64 l∧s6=.int .i64 h∧k≤pn∧Hid (bnd rows ps k=(l,h))∧Hid (∀ j,j<k→LevOK rows lw gh ps ps.length j)∧Hid (Below w1.heap.size w1 wr)) (fun _ _ s7 _=>pn - (intOf s7).toNat)
     case atStart=>exact ⟨0,0,n,rfl,rfl,rfl,by omega,hid (by simp [bnd,HL.out.1]),hid (fun j hj=>by omega),hid belA⟩
     case round =>
      obtain ⟨k,l,h,rfl,rfl,rfl,hk,HBN,HT,HW⟩:=hrel
      have hzw:=HW.out.size
      have HWW:=hid (HB.out.trans (HW.out.mono (show w.heap.size≤w1.heap.size by omega)))
      by_cases hlt:k<pn
      ·replace c0:wr.cell? ⟨w.heap.size+1,0,none⟩=some (.int .i64 ar):=by rw [(bcell HW.out).1 _ _ hz1];exact c0
       replace c1:wr.cell? ⟨w.heap.size+1,1,none⟩=some (.slice a n c):=by rw [(bcell HW.out).1 _ _ hz1];exact c1
       replace c2:wr.cell? ⟨w.heap.size+1,2,none⟩=some (.slice la ln lc):=by rw [(bcell HW.out).1 _ _ hz1];exact c2
       replace c3:wr.cell? ⟨w.heap.size+1,3,none⟩=some (.slice ga gn gc):=by rw [(bcell HW.out).1 _ _ hz1];exact c3
       replace c4:wr.cell? ⟨w.heap.size+1,4,none⟩=some (.slice pa pn pc):=by rw [(bcell HW.out).1 _ _ hz1];exact c4
       have hIr:=beIter HI1.out HW.out (show hi≤w1.heap.size by omega)
       have hbo:=bnd_ok (rows:=rows) (low:=lw) (high:=gh) (pos:=ps) (n:=ps.length) (k:=k) (by rw [HL.out.2.2.2];exact hlt) HT.out
       rw [HBN.out] at hbo
       have hlh:l≤h:=hbo.1
       have hhn:h≤n:=by have:=hbo.2;rw [HL.out.1] at this;exact this
       have HBO:=hid hbo;clear hbo
       obtain ⟨lb,lo',rfl,d1,_⟩:=intsAt hIr.2.1 (show k<ln by have:=HE.out;omega)
       obtain ⟨gb,go',rfl,d2,_⟩:=intsAt hIr.2.2.1 (show k<gn by have:=HE.out;omega)
       obtain ⟨pb,po',rfl,d3,i3⟩:=intsAt hIr.2.2.2 hlt
       have hkln:k<ln:=by have:=HE.out;omega
       have hkgn:k<gn:=by have:=HE.out;omega
       have HIR:=hid hIr;clear hIr
       have hfail:¬ LevOK rows lw gh ps ps.length k→validIt ar rows lw gh ps=false:=fun hn=>validIt_lev (by rw [HL.out.2.2.2];exact hlt) hn
       have HFA:=hid hfail;clear hfail
       generalize hxl:ix lw k=xl at *
       generalize hxg:ix gh k=xg at *
       generalize hxp:ix ps k=xp at *
       have HX:=hid (And.intro hxl (And.intro hxg hxp));clear hxl hxg hxp
       have hlev:LevOK rows lw gh ps ps.length k↔(xl=l∧xg=h∧((l:Int)≤xp∧xp≤h)∧(xp=h→k+1=pn)∧((l:Int)<xp→xp<h→kx rows (px ps k - 1) k ≠ kx rows (px ps k) k)):=by
        unfold LevOK;rw [HBN.out,HX.out.1,HX.out.2.1,HX.out.2.2,HL.out.2.2.2]
       have HLEV:=hid hlev;clear hlev
       by_cases f1:xl=l
       ·have hb3:(xl != (l:Int))=false:=by simp [f1]
        by_cases f2:xg=h
        ·have hb4:(xg != (h:Int))=false:=by simp [f2]
         by_cases f3:(l:Int)≤xp∧xp≤h
         ·have hd:decide ((l:Int)≤xp∧xp≤h)=true:=by simpa using f3
          obtain ⟨p,hp⟩:∃ p:Nat,xp=p:=⟨xp.toNat,by omega⟩
          have hpx:px ps k=p:=by unfold px;rw [HX.out.2.2,hp];rfl
          subst hp
          have HP:=hid hpx;clear hpx
          have hpl:l≤p:=by omega
          have hph:p≤h:=by omega
          have HFF:=hid (And.intro f1 f2);clear f1 f2
          by_cases f4:p=h
          ·have hb5:((p:Int) == (h:Int))=true:=by simp [f4]
           have hw1:IntKind.i64.wrap ((pn:Int) - 1)=(pn:Int) - 1:=IntWalk.i64_in _ (by omega)
           by_cases f5:k+1=pn
           ·have hb6:((k:Int) == (pn:Int) - 1)=true:=by simp;omega
            have HF:=hid (HYES.out (by
             intro j hj
             by_cases ej:j=k
             ·subst ej;exact HLEV.out.2 ⟨HFF.out.1,HFF.out.2,f3,fun _=>f5,fun _ g2=>by omega⟩
             ·exact HT.out j (by omega)))
            have H4:=hid (And.intro f4 f5);clear f4 f5
            go_wp2_with fail
            refine (implWithin (p:Int) l h _).mono ?_
            rintro e w3 ⟨rfl,m3,rfl⟩
            rw [hd]
            go_wp2_with fail
            go_ret
            exact ⟨by rw [HF.out];rfl,below_drewN HWW.out _⟩
           ·have hb6:((k:Int) == (pn:Int) - 1)=false:=by simp;omega
            have HF:=hid (HFA.out (fun g=>f5 ((HLEV.out.1 g).2.2.2.1 (by omega))))
            have H4:=hid (And.intro f4 f5);clear f4 f5
            go_wp2_with fail
            refine (implWithin (p:Int) l h _).mono ?_
            rintro e w3 ⟨rfl,m3,rfl⟩
            rw [hd]
            go_wp2_with fail
            go_ret
            exact ⟨by rw [HF.out];rfl,below_drewN HWW.out _⟩
          ·have hb5:((p:Int) == (h:Int))=false:=by simp;omega
           have hph2:p<h:=by omega
           obtain ⟨b,off,rfl⟩:=RowsA.some HIR.out.1.2 (show 0<n by omega)
           obtain ⟨b2,off2,rn,rc,y0,y1,y2,y3,y4,_⟩:=rowsKey HIR.out.1.2 (show p<n by omega) (HRL.out p k (by omega) hlt)
           have hrg:∀ i,i<h→k<(rx rows i).length:=fun i hi'=>HRL.out i k (by omega) hlt
           have HRG:=hid hrg;clear hrg
           by_cases f6:l<p
           ·obtain ⟨q,rfl⟩:∃ q,p=q+1:=⟨p - 1,by omega⟩
            obtain ⟨b4,off4,rn4,rc4,z0,z1,z2,z3,z4,_⟩:=rowsKey HIR.out.1.2 (show q<n by omega) (HRL.out q k (by omega) hlt)
            have hw2:IntKind.i64.wrap (((q+1:Nat):Int) - 1)=q:=by rw [show ((q+1:Nat):Int) - 1=q by omega];exact IntWalk.i64_in _ (by omega)
            have hw3:IntKind.i64.wrap ((q:Int)+1 - 1)=q:=by rw [show (q:Int)+1 - 1=q by omega];exact IntWalk.i64_in _ (by omega)
            generalize hk1:kx rows (q+1) k=v1 at *
            generalize hk2:kx rows q k=v2 at *
            have HKK:=hid (And.intro hk1 hk2);clear hk1 hk2
            have hg6:decide ((l:Int)<((q+1:Nat):Int))=true:=by simp;omega
            have hg7:decide ((l:Int)<(q:Int)+1)=true:=by simp;omega
            have hd':decide ((l:Int)≤(q:Int)+1∧(q:Int)+1≤h)=true:=by simp;omega
            by_cases f7:v2=v1
            ·have hb8:(v2 == v1)=true:=by simp [f7]
             have HF:=hid (HFA.out (fun g=>(HLEV.out.1 g).2.2.2.2 (by omega) (by omega) (by rw [HP.out];simp only [Nat.add_sub_cancel];rw [HKK.out.1,HKK.out.2];exact f7)))
             have H7:=hid f7;clear f7
             go_wp2_with fail
             refine (implWithin _ l h _).mono ?_
             rintro e w3 ⟨rfl,m3,rfl⟩
             rw [hd']
             go_wp2_with fail
             go_quiet (fail)
             go_wp2_with fail
             go_ret
             exact ⟨by rw [HF.out];rfl,by rw [dd];exact below_drewN HWW.out _⟩
            ·have hb8:(v2 == v1)=false:=by simp [f7]
             have HT2:Hid (∀ j,j<k+1→LevOK rows lw gh ps ps.length j):=hid (by
              intro j hj
              by_cases ej:j=k
              ·subst ej;exact HLEV.out.2 ⟨HFF.out.1,HFF.out.2,f3,fun g1=>by omega,fun _ _=>by rw [HP.out];simp only [Nat.add_sub_cancel];rw [HKK.out.1,HKK.out.2];exact f7⟩
              ·exact HT.out j (by omega))
             have HBN2:Hid (bnd rows ps (k+1)=(q+1,grpEnd rows k (q+1) h)):=hid (by simp only [bnd];rw [HP.out,HBN.out])
             have H7:=hid f7;clear f7
             go_wp2_with fail
             refine (implWithin _ l h _).mono ?_
             rintro e w3 ⟨rfl,m3,rfl⟩
             rw [hd']
             go_wp2_with fail
             go_quiet (fail)
             go_wp2_with fail
             refine (implGroupEnd ar _ n c rows _ ln lc _ gn gc _ pn pc k (q+1) h _ (SlA.keep intsOK HIR.out.1.2 (by repeat (first | assumption | exact Keeps.refl _ _ _ | exact HB.out.1 | refine Keeps.dr ?_ _ | refine Keeps.sc ?_ (by first | omega | (simp;done) | (simp;omega)) _ | refine Keeps.al ?_ (by first | with_reducible exact Nat.le_refl _ | omega | (simp;done) | (simp;omega) | exact Nat.le_refl _) _))) (by show hi≤wr.heap.size;omega) hph2 (by rw [HL.out.1];exact hhn) HRG.out).mono ?_
             rintro e w4 ⟨rfl,hb4'⟩
             have HW4:Hid (Below w1.heap.size w1 w4):=hid (Below.calm HW.out (Below.trans belA (hb4'.mono leA)))
             clear hb4'
             go_wp2_with fail
             go_roundw
             case rel=>exact ⟨k+1,q+1,_,by go_num,by go_num,rfl,by omega,HBN2,HT2,HW4⟩
             case measure=>simp [intOf];omega
           ·have hg7:decide ((l:Int)<(p:Int))=false:=by simp;omega
            have HT2:Hid (∀ j,j<k+1→LevOK rows lw gh ps ps.length j):=hid (by
             intro j hj
             by_cases ej:j=k
             ·subst ej;exact HLEV.out.2 ⟨HFF.out.1,HFF.out.2,f3,fun g1=>by omega,fun g2 _=>by omega⟩
             ·exact HT.out j (by omega))
            have HBN2:Hid (bnd rows ps (k+1)=(p,grpEnd rows k p h)):=hid (by simp only [bnd];rw [HP.out,HBN.out])
            go_wp2_with fail
            refine (implWithin _ l h _).mono ?_
            rintro e w3 ⟨rfl,m3,rfl⟩
            rw [hd]
            go_wp2_with fail
            go_quiet (fail)
            go_wp2_with fail
            refine (implGroupEnd ar _ n c rows _ ln lc _ gn gc _ pn pc k p h _ (SlA.keep intsOK HIR.out.1.2 (by repeat (first | assumption | exact Keeps.refl _ _ _ | exact HB.out.1 | refine Keeps.dr ?_ _ | refine Keeps.sc ?_ (by first | omega | (simp;done) | (simp;omega)) _ | refine Keeps.al ?_ (by first | with_reducible exact Nat.le_refl _ | omega | (simp;done) | (simp;omega) | exact Nat.le_refl _) _))) (by show hi≤wr.heap.size;omega) hph2 (by rw [HL.out.1];exact hhn) HRG.out).mono ?_
            rintro e w4 ⟨rfl,hb4'⟩
            have HW4:Hid (Below w1.heap.size w1 w4):=hid (Below.calm HW.out (Below.trans belA (hb4'.mono leA)))
            clear hb4'
            go_wp2_with fail
            go_roundw
            case rel=>exact ⟨k+1,p,_,by go_num,rfl,rfl,by omega,HBN2,HT2,HW4⟩
            case measure=>simp [intOf];omega
         ·have hd:decide ((l:Int)≤xp∧xp≤h)=false:=by simpa using f3
          have HF:=hid (HFA.out (fun g=>f3 (HLEV.out.1 g).2.2.1))
          have H1:=hid (And.intro f1 (And.intro f2 f3));clear f1 f2 f3
          go_wp2_with fail
          refine (implWithin xp l h _).mono ?_
          rintro e w3 ⟨rfl,m3,rfl⟩
          rw [hd]
          go_wp2_with fail
          go_ret
          exact ⟨by rw [HF.out];rfl,below_drewN HWW.out _⟩
        ·have hb4:(xg != (h:Int))=true:=by simp [f2]
         have HF:=hid (HFA.out (fun g=>f2 (HLEV.out.1 g).2.1))
         have H1:=hid (And.intro f1 f2);clear f1 f2
         go_wp2_with fail
         go_ret
         exact ⟨by rw [HF.out];rfl,HWW.out⟩
       ·have hb3:(xl != (l:Int))=true:=by simp [f1]
        have HF:=hid (HFA.out (fun g=>f1 (HLEV.out.1 g).1))
        have H1:=hid f1;clear f1
        go_wp2_with fail
        go_ret
        exact ⟨by rw [HF.out];rfl,HWW.out⟩
      ·have HF:=hid (HYES.out (fun j hj=>HT.out j (by omega)))
       go_wp2_with fail
       go_ret
       exact ⟨by rw [HF.out];rfl,HWW.out⟩
    ·have HF:=hid (HNO.out True (fun h=>e3 (by rw [← HL.out.2.2.2];exact h.2.2)))
     have hb1:((ln:Int) != (pn:Int))=false:=by simp [e1]
     have hb2:((gn:Int) != (pn:Int))=false:=by simp [e2]
     have HE:=hid (And.intro e1 e2);clear e1 e2
     go_wp2_with fail
     go_ret
     exact ⟨by rw [HF.out];rfl,HB.out⟩
   ·have hb2:((gn:Int) != (pn:Int))=true:=by rw [bne_iff_ne];omega
    have hb1:((ln:Int) != (pn:Int))=false:=by simp [e1]
    have HF:=hid (HNO.out True (fun h=>e2 (by rw [← HL.out.2.2.1,← HL.out.2.2.2];exact h.2.1)))
    have HE:=hid (And.intro e1 e2);clear e1 e2
    go_wp2_with fail
    go_ret
    exact ⟨by rw [HF.out];rfl,HB.out⟩
  ·have hb1:((ln:Int) != (pn:Int))=true:=by rw [bne_iff_ne];omega
   have HF:=hid (HNO.out True (fun h=>e1 (by rw [← HL.out.2.1,← HL.out.2.2.2];exact h.1)))
   have HE:=hid e1;clear e1
   go_wp2_with fail
   go_ret
   exact ⟨by rw [HF.out];rfl,HB.out⟩
end Go.Proofs.Ytfobmfngbfbfdaa
