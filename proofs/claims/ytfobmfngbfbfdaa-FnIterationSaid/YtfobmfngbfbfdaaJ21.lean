/- Lemmas for the proof of FnIteration, part 21 of 24: no condition of their own. -/
import Derived.Test.YtfobmfngbfbfdaaJ17
import Derived.Test.YtfobmfngbfbfdaaJ20
import Derived.Test.YtfobmfngbfbfdaaJ19
import Derived.Test.YtfobmfngbfbfdaaJ4
import Derived.StillTailTactics
import Derived.Test.YtfobmfngbfbfdaaJ2
import Derived.Deep.RegionHeld3
import Derived.Deep.CutBlock
import Derived.Deep.DeepCutAuto
namespace Go.Proofs.Ytfobmfngbfbfdaa
set_option linter.unusedSimpArgs false
set_option linter.unusedVariables false
attribute [local go_sem ↓] reduceIte
attribute [local go_sem] Nat.reduceEqDiff Nat.reduceLT Nat.reduceAdd Nat.reduceLeDiff Nat.reduceMul Nat.reduceBEq Nat.reduceSub reduceCtorEq Int.reduceLE Int.reduceNeg Int.reduceLT
open Go.RowKit
structure ItFit (rows:List (List Int)) (lw gh ps:List Int) (q:Nat):Prop where
 len:rows.length≤5000
 row:∀ x∈rows,x.length≤10
 l1:lw.length=ps.length
 l2:gh.length=ps.length
 n:ps.length≤q
structure ItAny (rows:List (List Int)) (lw gh ps:List Int):Prop where
 len:rows.length≤5000
 row:∀ x∈rows,x.length≤10
 l1:lw.length≤10
 l2:gh.length≤10
 n:ps.length≤10
theorem lens_le {rows:List (List Int)} (h:∀ x∈rows,x.length≤10):∀ k,k≤rows.length→lens rows k≤10*k
 | 0,_=>by simp [lens]
 | k+1,hk=>by
  have:=lens_le h k (by omega)
  have h2:(rx rows k).length≤10:=h _ (by rw [rx_lt (by omega)];exact List.getElem_mem _)
  simp only [lens];omega
theorem rows_sz {rows:List (List Int)} (h1:rows.length≤5000) (h:∀ x∈rows,x.length≤10):rowsSz rows≤55000:=by
 have:=lens_le h rows.length (Nat.le_refl _)
 unfold rowsSz;omega
theorem ItFit.any {rows:List (List Int)} {lw gh ps:List Int} {q:Nat} (h:ItFit rows lw gh ps q) (hq:q≤10):ItAny rows lw gh ps:=⟨h.len,h.row,by have:=h.l1;have:=h.n;omega,by have:=h.l2;have:=h.n;omega,by have:=h.n;omega⟩
theorem ItAny.sz {rows:List (List Int)} {lw gh ps:List Int} (h:ItAny rows lw gh ps):szIter rows lw gh ps≤1048576:=by
 have:=rows_sz h.len h.row
 have:=h.l1;have:=h.l2;have:=h.n
 unfold szIter;omega
def anyIt (r:AV):Prop:=∃ (ar:Int) (rows:List (List Int)) (lw gh ps:List Int),ItAny rows lw gh ps∧r=.d (itD ar rows lw gh ps)
def fitIt (r:AV):Prop:=∃ (ar:Int) (rows:List (List Int)) (lw gh ps:List Int),ItFit rows lw gh ps 7∧r=.d (itD ar rows lw gh ps)
theorem ni_fit {ar:Int} {rows:List (List Int)} (h:RelAny ar rows):ItFit (niRows ar rows) [] [] [] 0:=by
 unfold niRows
 split
 ·exact ⟨h.len,h.row,rfl,rfl,Nat.le_refl _⟩
 ·exact ⟨Nat.zero_le _,fun x hx=>(by cases hx),rfl,rfl,Nat.le_refl _⟩
section
variable {ar:Int} {rows:List (List Int)} {lw gh ps:List Int} {q:Nat} (h:ItFit rows lw gh ps q)
include h
theorem ItFit.open' (ok:Bool) (a b c:Nat):ItFit rows (opT ok lw a) (opT ok gh b) (opT ok ps c) (q+1):=by
 have:=h.l1;have:=h.l2;have:=h.n
 cases ok with
 | true=>exact ⟨h.len,h.row,by simp [opT,h.l1],by simp [opT,h.l2],by simp [opT];omega⟩
 | false=>exact ⟨h.len,h.row,by simp [opT,h.l1],by simp [opT,h.l2],by simp [opT];omega⟩
theorem ItFit.close (ok:Bool):ItFit rows (clT ok ps.length lw) (clT ok ps.length gh) (clT ok ps.length ps) (q+1):=by
 have:=h.l1;have:=h.l2;have:=h.n
 cases ok with
 | true=>exact ⟨h.len,h.row,by simp [clT,h.l1],by simp [clT,h.l2],by simp [clT];omega⟩
 | false=>exact ⟨h.len,h.row,by simp [clT,h.l1],by simp [clT,h.l2],by simp [clT];omega⟩
theorem ItFit.pos {ps':List Int} (e:ps'.length=ps.length):ItFit rows lw gh ps' (q+1):=⟨h.len,h.row,by rw [e];exact h.l1,by rw [e];exact h.l2,by have:=h.n;omega⟩
end
theorem nextP_len (ar:Int) (rows:List (List Int)) (lw gh ps:List Int):(nextP ar rows lw gh ps).length=ps.length:=by
 unfold nextP;split <;> simp
theorem seekP_len (ar:Int) (rows:List (List Int)) (lw gh ps:List Int) (v:Int):(seekP ar rows lw gh ps v).length=ps.length:=by
 unfold seekP;split <;> simp
abbrev pkN:Pk:=⟨false,fun _=>True⟩
set_option maxHeartbeats 4000000 in
theorem l17IterA:AFn 45 [.ptr 0 0] [curL] (fun r os=>fitIt r∧os=[curL]):=by
 refine afn_of (rv:=[.cell 2 29]) tyT_ok Try.func45 rfl (by decide +kernel) Try.ntmps45 rfl (by simp) ?_
 repeat' (first | refine sq ?_ | refine stp ?_ | refine blk_o (by decide) ?_ | (apply cb;(focus (simp (disch:=(first | omega | (simp;omega))) only [go_sem,w64];try exact rfl));refine cok ?_) | (refine rgT ?_;intro K hK) | (refine dA ?_;intro K hK) | (with_reducible refine hK _ ?_;clear hK K) | (refine stq ?_;simp (disch:=(first | omega | (simp;omega))) only [go_sem,w64]) | refine as1 ?_ | fail)
 (refine callL 1000000 (l16TrieA) ?_)
 rintro r os ⟨⟨ar,rows,hA,rfl⟩,rfl⟩
 refine ⟨by decide,?_⟩
 have hsz:=rows_sz hA.len hA.row
 repeat' (first | refine sq ?_ | refine stp ?_ | refine blk_o (by decide) ?_ | (apply cb;(focus (simp (disch:=(first | omega | (simp;omega))) only [go_sem,w64,relD];try exact rfl));refine cok ?_) | (refine rgT ?_;intro K hK) | (refine dA ?_;intro K hK) | (with_reducible refine hK _ ?_;clear hK K) | (refine stq ?_;simp (disch:=(first | omega | (simp;omega))) only [go_sem,w64,relD]) | refine as1 ?_ | fail)
 (first | refine callA (specNewItA ar rows (by omega)) ?_ | refine callD (specNewItA ar rows (by omega)) ?_ | refine callE (specNewItA ar rows (by omega)) ?_ | refine callF (specNewItA ar rows (by omega)) ?_ ?_)
 have hF:=ni_fit hA
 generalize niRows ar rows=rows2 at *
 generalize niAr ar rows=ar2 at *
 repeat' (first | refine sq ?_ | refine stp ?_ | refine blk_o (by decide) ?_ | (apply cb;(focus (simp (disch:=(first | omega | (simp;omega))) only [go_sem,w64,relD];try exact rfl));refine cok ?_) | (refine rgT ?_;intro K hK) | (refine dA ?_;intro K hK) | (with_reducible refine hK _ ?_;clear hK K) | (refine stq ?_;simp (disch:=(first | omega | (simp;omega))) only [go_sem,w64,relD]) | refine as1 ?_ | fail)
 (refine callL 1000000 (l1BelowA 7) ?_)
 rintro r os ⟨n,⟨hn0,_,hn1⟩,rfl,rfl⟩
 have hn2:=hn1 (by omega)
 obtain ⟨m,rfl⟩:∃ m:Nat,n=m:=⟨n.toNat,by omega⟩
 refine ⟨by decide,?_⟩
 repeat' (first | refine sq ?_ | refine stp ?_ | refine blk_o (by decide) ?_ | (apply cb;(focus (simp (disch:=(first | omega | (simp;omega))) only [go_sem,w64];try exact rfl));refine cok ?_) | (refine rgT ?_;intro K hK) | (refine dA ?_;intro K hK) | (with_reducible refine hK _ ?_;clear hK K) | (refine stq ?_;simp (disch:=(first | omega | (simp;omega))) only [go_sem,w64]) | refine as1 ?_ | fail)
 refine awp_loopw (fun mm s=>∃ (k:Nat) (ar:Int) (rows:List (List Int)) (lw gh ps:List Int),mm=k∧k≤6∧ItFit rows lw gh ps (6 - k)∧s=mkS [(0,.ptr 1000000 0),(2,.ptr 2 0),(3,.ptr 3 0),(5,.d (.int (k:Nat)))] [(2,[.d (.int 0),.nil,.nil,.nil,.nil]),(3,[.d (.int ar),.d (rowsD rows),.d (intsD lw),.d (intsD gh),.d (intsD ps)]),(1000000,curL)]) ?_ ?_
 ·refine ⟨_,_,?_,m,ar2,rows2,[],[],[],rfl,by omega,⟨hF.len,hF.row,rfl,rfl,Nat.zero_le _⟩,rfl⟩
  exact sleA
 ·rintro k s ⟨_,ar,rows,lw,gh,ps,rfl,hk,hF,rfl⟩
  have hsz:szIter rows lw gh ps≤1048576:=(hF.any (by omega)).sz
  have w4:1≤k→IntKind.i64.wrap ((k:Int) - 1)=((k - 1:Nat):Int):=fun h=>by rw [w64 (by omega)];omega
  repeat' (first | refine sq ?_ | refine stp ?_ | refine blk_o (by decide) ?_ | (apply cb;(focus (simp (disch:=(first | omega | (simp;omega))) only [go_sem,w64];try exact rfl));refine cok ?_) | (refine rgT ?_;intro K hK) | (refine dA ?_;intro K hK) | (with_reducible refine hK _ ?_;clear hK K) | (refine stq ?_;simp (disch:=(first | omega | (simp;omega))) only [go_sem,w64]) | refine as1 ?_ | fail)
  refine awp_if (p:=(0:Int)<(k:Nat)) (by simp (disch:=(first | omega | (simp;omega))) only [go_sem,w64]) ?_ ?_ <;> intro hc
  ·have hk1:1≤k:=by omega
   have w5:=w4 hk1
   repeat' (first | refine sq ?_ | refine stp ?_ | refine blk_o (by decide) ?_ | (apply cb;(focus (simp (disch:=(first | omega | (simp;omega))) only [go_sem,w64];try exact rfl));refine cok ?_) | (refine rgT ?_;intro K hK) | (refine dA ?_;intro K hK) | (with_reducible refine hK _ ?_;clear hK K) | (refine stq ?_;simp (disch:=(first | omega | (simp;omega))) only [go_sem,w64]) | refine as1 ?_ | fail)
   (refine callL 1000000 (l1BelowA 5) ?_)
   rintro r os ⟨x,⟨x0,_,x1⟩,rfl,rfl⟩
   have x2:=x1 (by omega)
   refine ⟨by decide,?_⟩
   by_cases c01:x=0∨x=1
   ·have fin:∀ q:Bool,True:=fun _=>trivial
    have hO:=specOpenA ar rows lw gh ps hsz
    have hF2:=hF.open' (opOK ar rows lw gh ps) (bnd rows ps ps.length).1 (bnd rows ps ps.length).2 (bnd rows ps ps.length).1
    generalize opT (opOK ar rows lw gh ps) lw (bnd rows ps ps.length).1=lw2 at *
    generalize opT (opOK ar rows lw gh ps) gh (bnd rows ps ps.length).2=gh2 at *
    generalize opT (opOK ar rows lw gh ps) ps (bnd rows ps ps.length).1=ps2 at *
    rcases c01 with e | e
    ·have e0:x=0↔True:=iff_of_true e trivial
     repeat' (first | refine sq ?_ | refine stp ?_ | refine blk_o (by decide) ?_ | (apply cb;(focus (simp (disch:=(first | omega | (simp;omega))) only [go_sem,w64,e0,w5];try exact rfl));refine cok ?_) | (refine rgT ?_;intro K hK) | (refine dA ?_;intro K hK) | (with_reducible refine hK _ ?_;clear hK K) | (refine stq ?_;simp (disch:=(first | omega | (simp;omega))) only [go_sem,w64,e0,w5]) | refine as1 ?_ | fail)
     (first | refine callA (hO) ?_ | refine callD (hO) ?_ | refine callE (hO) ?_ | refine callF (hO) ?_ ?_)
     repeat' (first | refine sq ?_ | refine stp ?_ | refine blk_o (by decide) ?_ | (apply cb;(focus (simp (disch:=(first | omega | (simp;omega))) only [go_sem,w64,e0,w5];try exact rfl));refine cok ?_) | (refine rgT ?_;intro K hK) | (refine dA ?_;intro K hK) | (with_reducible refine hK _ ?_;clear hK K) | (refine stq ?_;simp (disch:=(first | omega | (simp;omega))) only [go_sem,w64,e0,w5]) | refine as1 ?_ | fail)
     refine ⟨k - 1,_,by omega,?_,k - 1,ar,rows,lw2,gh2,ps2,rfl,by omega,by rw [show 6 - (k - 1)=6 - k+1 by omega];exact hF2,rfl⟩
     exact sleA
    ·have e0:x=0↔False:=iff_of_false (by omega) id
     have e1:x=1↔True:=iff_of_true e trivial
     repeat' (first | refine sq ?_ | refine stp ?_ | refine blk_o (by decide) ?_ | (apply cb;(focus (simp (disch:=(first | omega | (simp;omega))) only [go_sem,w64,e0,e1,w5];try exact rfl));refine cok ?_) | (refine rgT ?_;intro K hK) | (refine dA ?_;intro K hK) | (with_reducible refine hK _ ?_;clear hK K) | (refine stq ?_;simp (disch:=(first | omega | (simp;omega))) only [go_sem,w64,e0,e1,w5]) | refine as1 ?_ | fail)
     (first | refine callA (hO) ?_ | refine callD (hO) ?_ | refine callE (hO) ?_ | refine callF (hO) ?_ ?_)
     repeat' (first | refine sq ?_ | refine stp ?_ | refine blk_o (by decide) ?_ | (apply cb;(focus (simp (disch:=(first | omega | (simp;omega))) only [go_sem,w64,e0,w5];try exact rfl));refine cok ?_) | (refine rgT ?_;intro K hK) | (refine dA ?_;intro K hK) | (with_reducible refine hK _ ?_;clear hK K) | (refine stq ?_;simp (disch:=(first | omega | (simp;omega))) only [go_sem,w64,e0,w5]) | refine as1 ?_ | fail)
     refine ⟨k - 1,_,by omega,?_,k - 1,ar,rows,lw2,gh2,ps2,rfl,by omega,by rw [show 6 - (k - 1)=6 - k+1 by omega];exact hF2,rfl⟩
     exact sleA
   ·have e0:x=0↔False:=iff_of_false (by omega) id
    have e1:x=1↔False:=iff_of_false (by omega) id
    by_cases c2:x=2
    ·have e2:x=2↔True:=iff_of_true c2 trivial
     have hO:=specNextA ar rows lw gh ps hsz
     have hF2:=hF.pos (nextP_len ar rows lw gh ps)
     generalize nextP ar rows lw gh ps=ps2 at *
     repeat' (first | refine sq ?_ | refine stp ?_ | refine blk_o (by decide) ?_ | (apply cb;(focus (simp (disch:=(first | omega | (simp;omega))) only [go_sem,w64,e0,e1,e2,w5];try exact rfl));refine cok ?_) | (refine rgT ?_;intro K hK) | (refine dA ?_;intro K hK) | (with_reducible refine hK _ ?_;clear hK K) | (refine stq ?_;simp (disch:=(first | omega | (simp;omega))) only [go_sem,w64,e0,e1,e2,w5]) | refine as1 ?_ | fail)
     (first | refine callA (hO) ?_ | refine callD (hO) ?_ | refine callE (hO) ?_ | refine callF (hO) ?_ ?_)
     repeat' (first | refine sq ?_ | refine stp ?_ | refine blk_o (by decide) ?_ | (apply cb;(focus (simp (disch:=(first | omega | (simp;omega))) only [go_sem,w64,e0,w5];try exact rfl));refine cok ?_) | (refine rgT ?_;intro K hK) | (refine dA ?_;intro K hK) | (with_reducible refine hK _ ?_;clear hK K) | (refine stq ?_;simp (disch:=(first | omega | (simp;omega))) only [go_sem,w64,e0,w5]) | refine as1 ?_ | fail)
     refine ⟨k - 1,_,by omega,?_,k - 1,ar,rows,lw,gh,ps2,rfl,by omega,by rw [show 6 - (k - 1)=6 - k+1 by omega];exact hF2,rfl⟩
     exact sleA
    ·have e2:x=2↔False:=iff_of_false c2 id
     by_cases c3:x=3
     ·have e3:x=3↔True:=iff_of_true c3 trivial
      repeat' (first | refine sq ?_ | refine stp ?_ | refine blk_o (by decide) ?_ | (apply cb;(focus (simp (disch:=(first | omega | (simp;omega))) only [go_sem,w64,e0,e1,e2,e3,w5];try exact rfl));refine cok ?_) | (refine rgT ?_;intro K hK) | (refine dA ?_;intro K hK) | (with_reducible refine hK _ ?_;clear hK K) | (refine stq ?_;simp (disch:=(first | omega | (simp;omega))) only [go_sem,w64,e0,e1,e2,e3,w5]) | refine as1 ?_ | fail)
      (refine callDL (j:=0) 1000000 (l1BelowA 5) ?_ ?_)
      ·exact ⟨_,_,0,⟨by omega,fun _=>rfl,fun h=>h⟩,rfl,rfl⟩
      rintro r os ⟨v,hv,rfl,rfl⟩
      refine ⟨[],rfl,by decide,?_⟩
      have hO:=specSeekA ar rows lw gh ps hsz v
      have hF2:=hF.pos (seekP_len ar rows lw gh ps v)
      generalize seekP ar rows lw gh ps v=ps2 at *
      repeat' (first | refine sq ?_ | refine stp ?_ | refine blk_o (by decide) ?_ | (apply cb;(focus (simp (disch:=(first | omega | (simp;omega))) only [go_sem,w64,e0,e1,e2,e3,w5];try exact rfl));refine cok ?_) | (refine rgT ?_;intro K hK) | (refine dA ?_;intro K hK) | (with_reducible refine hK _ ?_;clear hK K) | (refine stq ?_;simp (disch:=(first | omega | (simp;omega))) only [go_sem,w64,e0,e1,e2,e3,w5]) | refine as1 ?_ | fail)
      (first | refine callA (hO) ?_ | refine callD (hO) ?_ | refine callE (hO) ?_ | refine callF (hO) ?_ ?_)
      repeat' (first | refine sq ?_ | refine stp ?_ | refine blk_o (by decide) ?_ | (apply cb;(focus (simp (disch:=(first | omega | (simp;omega))) only [go_sem,w64,e0,w5];try exact rfl));refine cok ?_) | (refine rgT ?_;intro K hK) | (refine dA ?_;intro K hK) | (with_reducible refine hK _ ?_;clear hK K) | (refine stq ?_;simp (disch:=(first | omega | (simp;omega))) only [go_sem,w64,e0,w5]) | refine as1 ?_ | fail)
      refine ⟨k - 1,_,by omega,?_,k - 1,ar,rows,lw,gh,ps2,rfl,by omega,by rw [show 6 - (k - 1)=6 - k+1 by omega];exact hF2,rfl⟩
      exact sleA
     ·have e3:x=3↔False:=iff_of_false c3 id
      have hO:=specCloseA ar rows lw gh ps hsz
      have hF2:=hF.close (clOK ar rows lw gh ps)
      generalize clT (clOK ar rows lw gh ps) ps.length lw=lw2 at *
      generalize clT (clOK ar rows lw gh ps) ps.length gh=gh2 at *
      generalize clT (clOK ar rows lw gh ps) ps.length ps=ps2 at *
      repeat' (first | refine sq ?_ | refine stp ?_ | refine blk_o (by decide) ?_ | (apply cb;(focus (simp (disch:=(first | omega | (simp;omega))) only [go_sem,w64,e0,e1,e2,e3,w5];try exact rfl));refine cok ?_) | (refine rgT ?_;intro K hK) | (refine dA ?_;intro K hK) | (with_reducible refine hK _ ?_;clear hK K) | (refine stq ?_;simp (disch:=(first | omega | (simp;omega))) only [go_sem,w64,e0,e1,e2,e3,w5]) | refine as1 ?_ | fail)
      (first | refine callA (hO) ?_ | refine callD (hO) ?_ | refine callE (hO) ?_ | refine callF (hO) ?_ ?_)
      repeat' (first | refine sq ?_ | refine stp ?_ | refine blk_o (by decide) ?_ | (apply cb;(focus (simp (disch:=(first | omega | (simp;omega))) only [go_sem,w64,e0,w5];try exact rfl));refine cok ?_) | (refine rgT ?_;intro K hK) | (refine dA ?_;intro K hK) | (with_reducible refine hK _ ?_;clear hK K) | (refine stq ?_;simp (disch:=(first | omega | (simp;omega))) only [go_sem,w64,e0,w5]) | refine as1 ?_ | fail)
      refine ⟨k - 1,_,by omega,?_,k - 1,ar,rows,lw2,gh2,ps2,rfl,by omega,by rw [show 6 - (k - 1)=6 - k+1 by omega];exact hF2,rfl⟩
      exact sleA
  ·obtain rfl:k=0:=by omega
   repeat' (first | refine sq ?_ | refine stp ?_ | refine blk_o (by decide) ?_ | (apply cb;(focus (simp (disch:=(first | omega | (simp;omega))) only [go_sem,w64];try exact rfl));refine cok ?_) | (refine rgT ?_;intro K hK) | (refine dA ?_;intro K hK) | (with_reducible refine hK _ ?_;clear hK K) | (refine stq ?_;simp (disch:=(first | omega | (simp;omega))) only [go_sem,w64]) | refine as1 ?_ | fail)
   refine end1 0 (.inr rfl) (by simp (disch:=(first | omega | (simp;omega))) only [go_sem,w64];rfl) (by simp (disch:=(first | omega | (simp;omega))) only [go_sem,w64];rfl) (r:=.d (itD ar rows lw gh ps)) (by simp (disch:=(first | omega | (simp;omega))) only [go_sem,w64];exact .refl _) ⟨⟨_,_,_,_,_,⟨hF.len,hF.row,hF.l1,hF.l2,by have:=hF.n;omega⟩,rfl⟩,rfl⟩
theorem ItAny.sim {rows rows':List (List Int)} {lw gh ps lw' gh' ps':List Int} (h:ItAny rows lw gh ps) (n1:rows'.length=rows.length) (n2:∀ x∈rows',x.length=0∨∃ y∈rows,x.length=y.length) (n3:lw'.length=lw.length) (n4:gh'.length=gh.length) (n5:ps'.length=ps.length):ItAny rows' lw' gh' ps' :=
 ⟨by rw [n1];exact h.len,fun x hx=>by
  rcases n2 x hx with e | ⟨y,hy,e⟩
  ·omega
  ·rw [e];exact h.row y hy,by rw [n3];exact h.l1,by rw [n4];exact h.l2,by rw [n5];exact h.n⟩
set_option maxRecDepth 100000 in
set_option maxHeartbeats 4000000 in
theorem l17AnyA:AFn 25 [.ptr 0 0] [curL] (fun r os=>anyIt r∧os=[curL]):=by
 refine afn_ofC (rv:=[.cell 2 29]) tyT_ok Try.func25 rfl (by decide +kernel) Try.ntmps25 rfl (by simp) nod_args nod_cur ?_
 repeat' (first | refine sq ?_ | refine stp ?_ | refine blk_o (by decide) ?_ | (apply cb;(focus (simp (disch:=(first | omega | (simp;omega))) only [go_sem,w64];try exact rfl));refine cok ?_) | (refine rgT ?_;intro K hK) | (refine dA ?_;intro K hK) | (with_reducible refine hK _ ?_;clear hK K) | (refine stq ?_;simp (disch:=(first | omega | (simp;omega))) only [go_sem,w64]) | refine as1 ?_ | fail)
 (refine callL 1000000 (l17IterA) ?_)
 rintro r os ⟨⟨ar,rows,lw,gh,ps,hF,rfl⟩,rfl⟩
 refine ⟨by decide,?_⟩
 have hA:=hF.any (by omega)
 have hpm:(ps.map DV.int).length=ps.length:=List.length_map ..
 have q1:=hF.l1
 have q2:=hF.l2
 have q3:=hF.n
 by_cases h0:ps.length=0
 ·have z0:decide (((ps.length:Nat):Int)=0)=true:=decide_eq_true (by omega)
  repeat' (first | refine sq ?_ | refine stp ?_ | refine blk_o (by decide) ?_ | (apply cb;(focus (simp (disch:=(first | omega | (simp;omega))) only [go_sem,w64,intsD,hpm,z0];try exact rfl));refine cok ?_) | (refine rgT ?_;intro K hK) | (refine dA ?_;intro K hK) | (with_reducible refine hK _ ?_;clear hK K) | (refine stq ?_;simp (disch:=(first | omega | (simp;omega))) only [go_sem,w64,intsD,hpm,z0]) | refine as1 ?_ | fail)
  refine end1 0 (.inr rfl) (by simp (disch:=(first | omega | (simp;omega))) only [go_sem,w64];rfl) (by simp (disch:=(first | omega | (simp;omega))) only [go_sem,w64];rfl) (r:=.d (itD ar rows lw gh ps)) (by simp (disch:=(first | omega | (simp;omega))) only [go_sem,w64];exact .refl _) ⟨⟨_,_,_,_,_,hA,rfl⟩,rfl⟩
 have z0:decide (((ps.length:Nat):Int)=0)=false:=decide_eq_false (by omega)
 repeat' (first | refine sq ?_ | refine stp ?_ | refine blk_o (by decide) ?_ | (apply cb;(focus (simp (disch:=(first | omega | (simp;omega))) only [go_sem,w64,intsD,hpm,z0];try exact rfl));refine cok ?_) | (refine rgT ?_;intro K hK) | (refine dA ?_;intro K hK) | (with_reducible refine hK _ ?_;clear hK K) | (refine stq ?_;simp (disch:=(first | omega | (simp;omega))) only [go_sem,w64,intsD,hpm,z0]) | refine as1 ?_ | fail)
 (refine callL 1000000 (l1OnceA 5) ?_)
 rintro r os ⟨b,rfl,rfl⟩
 refine ⟨by decide,?_⟩
 cases b with
 | false =>
  repeat' (first | refine sq ?_ | refine stp ?_ | refine blk_o (by decide) ?_ | (apply cb;(focus (simp (disch:=(first | omega | (simp;omega))) only [go_sem,w64,intsD,hpm,z0];try exact rfl));refine cok ?_) | (refine rgT ?_;intro K hK) | (refine dA ?_;intro K hK) | (with_reducible refine hK _ ?_;clear hK K) | (refine stq ?_;simp (disch:=(first | omega | (simp;omega))) only [go_sem,w64,intsD,hpm,z0]) | refine as1 ?_ | fail)
  refine end1 0 (.inr rfl) (by simp (disch:=(first | omega | (simp;omega))) only [go_sem,w64];rfl) (by simp (disch:=(first | omega | (simp;omega))) only [go_sem,w64];rfl) (r:=.d (itD ar rows lw gh ps)) (by simp (disch:=(first | omega | (simp;omega))) only [go_sem,w64];exact .refl _) ⟨⟨_,_,_,_,_,hA,rfl⟩,rfl⟩
 | true =>
  repeat' (first | refine sq ?_ | refine stp ?_ | refine blk_o (by decide) ?_ | (apply cb;(focus (simp (disch:=(first | omega | (simp;omega))) only [go_sem,w64,intsD,hpm,z0];try exact rfl));refine cok ?_) | (with_reducible refine hK _ ?_;clear hK K) | (refine stq ?_;simp (disch:=(first | omega | (simp;omega))) only [go_sem,w64,intsD,hpm,z0]) | refine as1 ?_ | fail)
  refine awp_weak (s':=mkS [(0,.ptr 1000000 0),(2,.ptr 2 0),(3,.ptr 3 0),(4,.d (.int (ps.length:Nat)))] [(2,[.d (.int 0),.nil,.nil,.nil,.nil]),(3,[.d (.int ar),.d (rowsD rows),.d (intsD lw),.d (intsD gh),.d (intsD ps)]),(1000000,curL)]) (by exact sleA) ?_
  repeat' (first | refine sq ?_ | refine stp ?_ | refine blk_o (by decide) ?_ | (apply cb;(focus (simp (disch:=(first | omega | (simp;omega))) only [go_sem,w64];try exact rfl));refine cok ?_) | (refine rgT ?_;intro K hK) | (refine dA ?_;intro K hK) | (with_reducible refine hK _ ?_;clear hK K) | (refine stq ?_;simp (disch:=(first | omega | (simp;omega))) only [go_sem,w64]) | refine as1 ?_ | fail)
  (refine callL 1000000 (l1BelowA 4) ?_)
  rintro r os ⟨k,⟨k0,_,k1⟩,rfl,rfl⟩
  have k2:=k1 (by omega)
  refine ⟨by decide,?_⟩
  have w4:IntKind.i64.wrap (((ps.length:Nat):Int) - 1)=((ps.length - 1:Nat):Int):=by rw [w64 (by omega)];omega
  have r0:(ps.map DV.int).getD (ps.length - 1) (.bool false)=.int (ix ps (ps.length - 1)):=getDI (by omega)
  have r1:(gh.map DV.int).getD (ps.length - 1) (.bool false)=.int (ix gh (ps.length - 1)):=getDI (by omega)
  by_cases c0:k=0
  ·have e0:k=0↔True:=iff_of_true c0 trivial
   have hgm:(gh.map DV.int).length=gh.length:=List.length_map ..
   repeat' (first | refine sq ?_ | refine stp ?_ | refine blk_o (by decide) ?_ | (apply cb;(focus (simp (disch:=(first | omega | (simp;omega))) only [go_sem,w64,e0,w4];try exact rfl));refine cok ?_) | (refine rgT ?_;intro K hK) | (with_reducible refine hK _ ?_;clear hK K) | (refine stq ?_;simp (disch:=(first | omega | (simp;omega))) only [go_sem,w64,e0,w4]) | refine as1 ?_ | fail)
   refine awp_drawL (o:=?p0) tyT_ok (by kernel_rfl) 8 ?t1_0 ?t2_0 ?t3_0 ?t4_0 ?t5_0 ?t6_0
   case t2_0=>rfl
   case t1_0=>rfl
   case t3_0=>rfl
   case t4_0=>kernel_rfl
   case t5_0=>kernel_rfl
   intro K hK
   repeat' (first | refine sq ?_ | refine stp ?_ | refine blk_o (by decide) ?_ | (apply cb;(focus (simp (disch:=(first | omega | (simp;omega))) only [go_sem,w64,r0,w4,intsD];try exact rfl));refine cok ?_) | (with_reducible refine hK _ ?_;clear hK K) | (refine stq ?_;simp (disch:=(first | omega | (simp;omega))) only [go_sem,w64,r0,w4,intsD]) | refine as1 ?_ | fail)
   (refine callDL (j:=0) 1000000 (l1BelowA 9) ?_ ?_)
   ·exact ⟨_,_,0,⟨by omega,fun _=>rfl,fun h=>by omega⟩,rfl,rfl⟩
   rintro rr os ⟨x,⟨x0,_,x1⟩,rfl,rfl⟩
   have x2:=x1 (by omega)
   have w5:IntKind.i64.wrap (x - 1)=x - 1:=w64 (by omega)
   refine ⟨[],rfl,by decide,?_⟩
   repeat' (first | refine sq ?_ | refine stp ?_ | refine blk_o (by decide) ?_ | (apply cb;(focus (simp (disch:=(first | omega | (simp;omega))) only [go_sem,w64,r0,w4,w5,intsD];try exact rfl));refine cok ?_) | (with_reducible refine hK _ ?_;clear hK K) | (refine stq ?_;simp (disch:=(first | omega | (simp;omega))) only [go_sem,w64,r0,w4,w5,intsD]) | refine as1 ?_ | fail)
   refine LStep.weak (s0:=mkS [(2,.ptr 2 0),(3,.ptr 3 0),(31,.d (.int (x - 1))),(32,.loc [.int (ix ps (ps.length - 1))])] [(2,[.d (.int 0),.nil,.nil,.nil,.nil]),(3,[.d (.int ar),.d (rowsD rows),.d (intsD lw),.d (intsD gh),.d (intsD ps)]),(1000000,curL)]) (by exact sleA) ?_
   refine lstep_poke tyT_ok pkN (T:=3) (p:=.tmp 32) (x:=.tmp 31) (y:=.int (x - 1)) rfl rfl rfl rfl rfl rfl rfl (by decide) (by exact Nat.le_refl 1) rfl (fun _ _=>trivial) ?_
   intro s' hs'
   obtain ⟨l2,ho2,_,_,rfl,⟨_,rfl,rfl⟩,_,_,rfl,rfl,_,_,rfl,rfl,_,_,rfl,rfl,_,_,rfl,rfl,rfl⟩:=ssim_ob 2 hs' rfl
   obtain ⟨l3,ho3,_,_,rfl,⟨_,rfl,rfl⟩,_,_,rfl,⟨_,rfl,ra,rfl,hra⟩,_,_,rfl,⟨_,rfl,rb,rfl,hrb⟩,_,_,rfl,⟨_,rfl,rc,rfl,hrc⟩,_,_,rfl,⟨_,rfl,rd,rfl,hrd⟩,rfl⟩:=ssim_ob 3 hs' rfl
   obtain ⟨lc,hoc,hlc⟩:=ssim_ob 1000000 hs' rfl
   obtain ⟨rows',rfl,n1,n2⟩:=csims_rows hra
   obtain ⟨lw',rfl,n3⟩:=csims_ints hrb
   obtain ⟨gh',rfl,n4⟩:=csims_ints hrc
   obtain ⟨ps',rfl,n5⟩:=csims_ints hrd
   have t2:s'.tm 2=.ptr 2 0:=ssim_tm 2 hs' rfl
   have t3:s'.tm 3=.ptr 3 0:=ssim_tm 3 hs' rfl
   have hA':=hA.sim n1 n2 n3 n4 n5
   refine hK _ ?_
   clear hK
   repeat' (first | refine sq ?_ | refine stp ?_ | refine blk_o (by decide) ?_ | (apply cb;(focus (simp (disch:=(first | omega | (simp;omega))) only [go_sem,w64];try exact rfl));refine cok ?_) | (with_reducible refine hK _ ?_;clear hK K) | (refine stq ?_;simp (disch:=(first | omega | (simp;omega))) only [go_sem,w64]) | refine as1 ?_ | fail)
   refine awp_weak (s':=mkS [(2,.ptr 2 0),(3,.ptr 3 0)] [(2,[.d (.int 0),.nil,.nil,.nil,.nil]),(3,[.d (.int ar),.d (rowsD rows'),.d (intsD lw'),.d (intsD gh'),.d (intsD ps')]),(1000000,curL)]) (sle_mk ⟨t2 ▸ .refl _,t3 ▸ .refl _,trivial⟩ ⟨⟨_,ho2,ales_eq rfl⟩,⟨_,ho3,ales_eq rfl⟩,⟨_,hoc,cur_sim hlc⟩,trivial⟩) ?_
   repeat' (first | refine sq ?_ | refine stp ?_ | refine blk_o (by decide) ?_ | (apply cb;(focus (simp (disch:=(first | omega | (simp;omega))) only [go_sem,w64];try exact rfl));refine cok ?_) | (refine rgT ?_;intro K hK) | (refine dA ?_;intro K hK) | (with_reducible refine hK _ ?_;clear hK K) | (refine stq ?_;simp (disch:=(first | omega | (simp;omega))) only [go_sem,w64]) | refine as1 ?_ | fail)
   refine end1 0 (.inr rfl) (by simp (disch:=(first | omega | (simp;omega))) only [go_sem,w64];rfl) (by simp (disch:=(first | omega | (simp;omega))) only [go_sem,w64];rfl) (r:=.d (itD ar rows' lw' gh' ps')) (by simp (disch:=(first | omega | (simp;omega))) only [go_sem,w64];exact .refl _) ⟨⟨_,_,_,_,_,hA',rfl⟩,rfl⟩
  have e0:k=0↔False:=iff_of_false c0 id
  by_cases c1:k=1
  ·have e1:k=1↔True:=iff_of_true c1 trivial
   have hgm:(gh.map DV.int).length=gh.length:=List.length_map ..
   repeat' (first | refine sq ?_ | refine stp ?_ | refine blk_o (by decide) ?_ | (apply cb;(focus (simp (disch:=(first | omega | (simp;omega))) only [go_sem,w64,e0,e1,w4];try exact rfl));refine cok ?_) | (refine rgT ?_;intro K hK) | (with_reducible refine hK _ ?_;clear hK K) | (refine stq ?_;simp (disch:=(first | omega | (simp;omega))) only [go_sem,w64,e0,e1,w4]) | refine as1 ?_ | fail)
   refine awp_drawL (o:=?p1) tyT_ok (by kernel_rfl) 7 ?t1_1 ?t2_1 ?t3_1 ?t4_1 ?t5_1 ?t6_1
   case t2_1=>rfl
   case t1_1=>rfl
   case t3_1=>rfl
   case t4_1=>kernel_rfl
   case t5_1=>kernel_rfl
   intro K hK
   repeat' (first | refine sq ?_ | refine stp ?_ | refine blk_o (by decide) ?_ | (apply cb;(focus (simp (disch:=(first | omega | (simp;omega))) only [go_sem,w64,r1,w4,intsD];try exact rfl));refine cok ?_) | (with_reducible refine hK _ ?_;clear hK K) | (refine stq ?_;simp (disch:=(first | omega | (simp;omega))) only [go_sem,w64,r1,w4,intsD]) | refine as1 ?_ | fail)
   (refine callDL (j:=0) 1000000 (l1BelowA 9) ?_ ?_)
   ·exact ⟨_,_,0,⟨by omega,fun _=>rfl,fun h=>by omega⟩,rfl,rfl⟩
   rintro rr os ⟨x,⟨x0,_,x1⟩,rfl,rfl⟩
   have x2:=x1 (by omega)
   have w5:IntKind.i64.wrap (x - 1)=x - 1:=w64 (by omega)
   refine ⟨[],rfl,by decide,?_⟩
   repeat' (first | refine sq ?_ | refine stp ?_ | refine blk_o (by decide) ?_ | (apply cb;(focus (simp (disch:=(first | omega | (simp;omega))) only [go_sem,w64,r1,w4,w5,intsD];try exact rfl));refine cok ?_) | (with_reducible refine hK _ ?_;clear hK K) | (refine stq ?_;simp (disch:=(first | omega | (simp;omega))) only [go_sem,w64,r1,w4,w5,intsD]) | refine as1 ?_ | fail)
   refine LStep.weak (s0:=mkS [(2,.ptr 2 0),(3,.ptr 3 0),(40,.d (.int x)),(41,.loc [.int (ix gh (ps.length - 1))])] [(2,[.d (.int 0),.nil,.nil,.nil,.nil]),(3,[.d (.int ar),.d (rowsD rows),.d (intsD lw),.d (intsD gh),.d (intsD ps)]),(1000000,curL)]) (by exact sleA) ?_
   refine lstep_poke tyT_ok pkN (T:=3) (p:=.tmp 41) (x:=.tmp 40) (y:=.int x) rfl rfl rfl rfl rfl rfl rfl (by decide) (by exact Nat.le_refl 1) rfl (fun _ _=>trivial) ?_
   intro s' hs'
   obtain ⟨l2,ho2,_,_,rfl,⟨_,rfl,rfl⟩,_,_,rfl,rfl,_,_,rfl,rfl,_,_,rfl,rfl,_,_,rfl,rfl,rfl⟩:=ssim_ob 2 hs' rfl
   obtain ⟨l3,ho3,_,_,rfl,⟨_,rfl,rfl⟩,_,_,rfl,⟨_,rfl,ra,rfl,hra⟩,_,_,rfl,⟨_,rfl,rb,rfl,hrb⟩,_,_,rfl,⟨_,rfl,rc,rfl,hrc⟩,_,_,rfl,⟨_,rfl,rd,rfl,hrd⟩,rfl⟩:=ssim_ob 3 hs' rfl
   obtain ⟨lc,hoc,hlc⟩:=ssim_ob 1000000 hs' rfl
   obtain ⟨rows',rfl,n1,n2⟩:=csims_rows hra
   obtain ⟨lw',rfl,n3⟩:=csims_ints hrb
   obtain ⟨gh',rfl,n4⟩:=csims_ints hrc
   obtain ⟨ps',rfl,n5⟩:=csims_ints hrd
   have t2:s'.tm 2=.ptr 2 0:=ssim_tm 2 hs' rfl
   have t3:s'.tm 3=.ptr 3 0:=ssim_tm 3 hs' rfl
   have hA':=hA.sim n1 n2 n3 n4 n5
   refine hK _ ?_
   clear hK
   repeat' (first | refine sq ?_ | refine stp ?_ | refine blk_o (by decide) ?_ | (apply cb;(focus (simp (disch:=(first | omega | (simp;omega))) only [go_sem,w64];try exact rfl));refine cok ?_) | (with_reducible refine hK _ ?_;clear hK K) | (refine stq ?_;simp (disch:=(first | omega | (simp;omega))) only [go_sem,w64]) | refine as1 ?_ | fail)
   refine awp_weak (s':=mkS [(2,.ptr 2 0),(3,.ptr 3 0)] [(2,[.d (.int 0),.nil,.nil,.nil,.nil]),(3,[.d (.int ar),.d (rowsD rows'),.d (intsD lw'),.d (intsD gh'),.d (intsD ps')]),(1000000,curL)]) (sle_mk ⟨t2 ▸ .refl _,t3 ▸ .refl _,trivial⟩ ⟨⟨_,ho2,ales_eq rfl⟩,⟨_,ho3,ales_eq rfl⟩,⟨_,hoc,cur_sim hlc⟩,trivial⟩) ?_
   repeat' (first | refine sq ?_ | refine stp ?_ | refine blk_o (by decide) ?_ | (apply cb;(focus (simp (disch:=(first | omega | (simp;omega))) only [go_sem,w64];try exact rfl));refine cok ?_) | (refine rgT ?_;intro K hK) | (refine dA ?_;intro K hK) | (with_reducible refine hK _ ?_;clear hK K) | (refine stq ?_;simp (disch:=(first | omega | (simp;omega))) only [go_sem,w64]) | refine as1 ?_ | fail)
   refine end1 0 (.inr rfl) (by simp (disch:=(first | omega | (simp;omega))) only [go_sem,w64];rfl) (by simp (disch:=(first | omega | (simp;omega))) only [go_sem,w64];rfl) (r:=.d (itD ar rows' lw' gh' ps')) (by simp (disch:=(first | omega | (simp;omega))) only [go_sem,w64];exact .refl _) ⟨⟨_,_,_,_,_,hA',rfl⟩,rfl⟩
  have e1:k=1↔False:=iff_of_false c1 id
  have hlm:(lw.map DV.int).length=lw.length:=List.length_map ..
  by_cases c2:k=2
  ·have e2:k=2↔True:=iff_of_true c2 trivial
   have hd:List.drop (Int.toNat 1) (List.take lw.length (lw.map DV.int))=(lw.drop 1).map DV.int:=by
    rw [List.take_of_length_le (by simp),List.map_drop];rfl
   repeat' (first | refine sq ?_ | refine stp ?_ | refine blk_o (by decide) ?_ | (apply cb;(focus (simp (disch:=(first | omega | (simp;omega))) only [go_sem,w64,e0,e1,e2,intsD,hlm,hd];try exact rfl));refine cok ?_) | (refine rgT ?_;intro K hK) | (refine dA ?_;intro K hK) | (with_reducible refine hK _ ?_;clear hK K) | (refine stq ?_;simp (disch:=(first | omega | (simp;omega))) only [go_sem,w64,e0,e1,e2,intsD,hlm,hd]) | refine as1 ?_ | fail)
   refine end1 0 (.inr rfl) (by simp (disch:=(first | omega | (simp;omega))) only [go_sem,w64];rfl) (by simp (disch:=(first | omega | (simp;omega))) only [go_sem,w64];rfl) (r:=.d (itD ar rows (lw.drop 1) gh ps)) (by simp (disch:=(first | omega | (simp;omega))) only [go_sem,w64];exact .refl _) ⟨⟨_,_,_,_,_,⟨hA.len,hA.row,by rw [List.length_drop];have:=hA.l1;omega,hA.l2,hA.n⟩,rfl⟩,rfl⟩
  ·have e2:k=2↔False:=iff_of_false c2 id
   repeat' (first | refine sq ?_ | refine stp ?_ | refine blk_o (by decide) ?_ | (apply cb;(focus (simp (disch:=(first | omega | (simp;omega))) only [go_sem,w64,e0,e1,e2];try exact rfl));refine cok ?_) | (refine rgT ?_;intro K hK) | (refine dA ?_;intro K hK) | (with_reducible refine hK _ ?_;clear hK K) | (refine stq ?_;simp (disch:=(first | omega | (simp;omega))) only [go_sem,w64,e0,e1,e2]) | refine as1 ?_ | fail)
   (refine callL 1000000 (l16AnyA) ?_)
   rintro r os ⟨⟨ar2,rows2,hA2,rfl⟩,rfl⟩
   refine ⟨by decide,?_⟩
   repeat' (first | refine sq ?_ | refine stp ?_ | refine blk_o (by decide) ?_ | (apply cb;(focus (simp (disch:=(first | omega | (simp;omega))) only [go_sem,w64,relD];try exact rfl));refine cok ?_) | (refine rgT ?_;intro K hK) | (refine dA ?_;intro K hK) | (with_reducible refine hK _ ?_;clear hK K) | (refine stq ?_;simp (disch:=(first | omega | (simp;omega))) only [go_sem,w64,relD]) | refine as1 ?_ | fail)
   refine end1 0 (.inr rfl) (by simp (disch:=(first | omega | (simp;omega))) only [go_sem,w64];rfl) (by simp (disch:=(first | omega | (simp;omega))) only [go_sem,w64];rfl) (r:=.d (itD ar2 rows2 lw gh ps)) (by simp (disch:=(first | omega | (simp;omega))) only [go_sem,w64];exact .refl _) ⟨⟨_,_,_,_,_,⟨hA2.len,hA2.row,hA.l1,hA.l2,hA.n⟩,rfl⟩,rfl⟩
theorem drawOpenA (code:List Int) (hl:code.length≤1048576):AFn 13 [.d (.sl 1 (code.map .byte))] [] (fun r os=>anyIt r∧os=[]):=by
 refine afn_of (rv:=[.cell 2 29]) tyT_ok Try.func13 rfl (by decide +kernel) Try.ntmps13 rfl (by simp) ?_
 repeat' (first | refine sq ?_ | refine stp ?_ | refine blk_o (by decide) ?_ | (apply cb;(focus (simp (disch:=(first | omega | (simp;omega))) only [go_sem,w64];try exact rfl));refine cok ?_) | (refine rgT ?_;intro K hK) | (refine dA ?_;intro K hK) | (with_reducible refine hK _ ?_;clear hK K) | (refine stq ?_;simp (disch:=(first | omega | (simp;omega))) only [go_sem,w64]) | refine as1 ?_ | fail)
 refine call2 (l1NewA code hl) ?_
 repeat' (first | refine sq ?_ | refine stp ?_ | refine blk_o (by decide) ?_ | (apply cb;(focus (simp (disch:=(first | omega | (simp;omega))) only [go_sem,w64];try exact rfl));refine cok ?_) | (refine rgT ?_;intro K hK) | (refine dA ?_;intro K hK) | (with_reducible refine hK _ ?_;clear hK K) | (refine stq ?_;simp (disch:=(first | omega | (simp;omega))) only [go_sem,w64]) | refine as1 ?_ | fail)
 (refine callL 4 (l17AnyA) ?_)
 rintro r os ⟨⟨ar,rows,lw,gh,ps,hA,rfl⟩,rfl⟩
 refine ⟨by decide,?_⟩
 repeat' (first | refine sq ?_ | refine stp ?_ | refine blk_o (by decide) ?_ | (apply cb;(focus (simp (disch:=(first | omega | (simp;omega))) only [go_sem,w64];try exact rfl));refine cok ?_) | (refine rgT ?_;intro K hK) | (refine dA ?_;intro K hK) | (with_reducible refine hK _ ?_;clear hK K) | (refine stq ?_;simp (disch:=(first | omega | (simp;omega))) only [go_sem,w64]) | refine as1 ?_ | fail)
 refine end0 0 (.inr rfl) (by simp (disch:=(first | omega | (simp;omega))) only [go_sem,w64];rfl) (r:=.d (itD ar rows lw gh ps)) (by simp (disch:=(first | omega | (simp;omega))) only [go_sem,w64];exact .refl _) ⟨⟨_,_,_,_,_,hA,rfl⟩,rfl⟩
end Go.Proofs.Ytfobmfngbfbfdaa
namespace Go.Proofs.Ytfobmfngbfbfdaa
set_option linter.unusedSimpArgs false
set_option linter.unusedVariables false
open Go.RowKit
def pathTo (rows:List (List Int)) (gh ps:List Int):Nat→List Int
 | 0=>[]
 | k+1=>if ix ps k<ix gh k then pathTo rows gh ps k ++ [kx rows (px ps k) k] else pathTo rows gh ps k
theorem pathTo_len (rows:List (List Int)) (gh ps:List Int) (k:Nat):(pathTo rows gh ps k).length≤k:=by
 induction k with
 | zero=>simp [pathTo]
 | succ k ih =>
  simp only [pathTo];split
  ·simp;omega
  ·omega
theorem pathTo_put {rows:List (List Int)} {gh ps:List Int} {k:Nat} (h:ix ps k<ix gh k):pathTo rows gh ps (k+1)=pathTo rows gh ps k ++ [kx rows (px ps k) k]:=by simp only [pathTo];rw [if_pos h]
theorem pathTo_keep {rows:List (List Int)} {gh ps:List Int} {k:Nat} (h:¬ ix ps k<ix gh k):pathTo rows gh ps (k+1)=pathTo rows gh ps k:=by simp only [pathTo];rw [if_neg h]
noncomputable def pathF (ar:Int) (rows:List (List Int)) (lw gh ps:List Int):List Int:=if validIt ar rows lw gh ps=true then pathTo rows gh ps ps.length else []
theorem pathF_len (ar:Int) (rows:List (List Int)) (lw gh ps:List Int):(pathF ar rows lw gh ps).length≤ps.length:=by
 unfold pathF;split
 ·exact pathTo_len _ _ _ _
 ·simp
theorem pathF_no {ar:Int} {rows:List (List Int)} {lw gh ps:List Int} (h:validIt ar rows lw gh ps=false):pathF ar rows lw gh ps=[]:=by simp [pathF,h]
theorem pathF_yes {ar:Int} {rows:List (List Int)} {lw gh ps:List Int} (h:validIt ar rows lw gh ps=true):pathF ar rows lw gh ps=pathTo rows gh ps ps.length:=by simp [pathF,h]
theorem lev_row {ar:Int} {rows:List (List Int)} {lw gh ps:List Int} (h:validIt ar rows lw gh ps=true) {k:Nat} (hk:k<ps.length) (hlt:ix ps k<ix gh k):ix ps k=(px ps k:Nat)∧px ps k<rows.length∧k<(rx rows (px ps k)).length:=by
 obtain ⟨v1,v2,v3,v4,v5⟩:=validIt_out h
 have hl:=v5 k hk
 have hb:=bnd_ok (n:=ps.length) hk (fun j hj=>v5 j (by omega))
 have hp:=lev_px hl
 have h2:=hl.2.1
 have h3:px ps k<rows.length:=by omega
 have h4:=((validR_out v1).2.2 _ h3).1
 exact ⟨hp,h3,by omega⟩
set_option maxRecDepth 100000 in
set_option maxHeartbeats 6400000 in
theorem implPath {fz:Bool} {lo hi:Nat} (ar:Int) (a:Option Addr) (n c:Nat) (rows:List (List Int)) (la:Option Addr) (ln lc:Nat) (lw:List Int) (ga:Option Addr) (gn gc:Nat) (gh:List Int) (pa:Option Addr) (pn pc:Nat) (ps:List Int) (w:World)
 (hI:IterA fz lo hi w ar a n c rows la ln lc lw ga gn gc gh pa pn pc ps) (hh:hi≤w.heap.size) (hn:ps.length≤1048576) :
 Calls Try.prog 23 #[iterV ar a n c la ln lc ga gn gc pa pn pc] w (GivesOwn w (pathF ar rows lw gh ps)):=by
 have hl1:=hI.1.2.len
 have hl3:=hI.2.2.1.len
 have hl4:=hI.2.2.2.len
 have hs1:=hI.1.2.small
 have hs3:=hI.2.2.1.small
 have hs4:=hI.2.2.2.small
 have hpn:pn≤1048576:=by omega
 have HL:=hid (And.intro hl1 (And.intro hl3 hl4));clear hl1 hl3 hl4 hn
 have HI:=hid hI;clear hI
 obtain ⟨vb,hvb⟩:∃ vb,validIt ar rows lw gh ps=vb:=⟨_,rfl⟩
 have HVB:=hid hvb;clear hvb
 cases vb with
 | false =>
  have HF:=hid (pathF_no HVB.out)
  go_enter Try.func23,Try.ntmps23
  go_wp2_with fail
  refine (implValidIt ar a n c rows la ln lc lw ga gn gc gh pa pn pc ps _ (beIter (B:=w.heap.size) HI.out belA hh) leA).mono ?_
  rintro e w1 ⟨rfl,hb1⟩
  rw [HVB.out]
  have hb2:Below w.heap.size w w1:=Below.trans belA (hb1.mono leA)
  have HB:=hid hb2;clear hb1 hb2
  go_wp2_with fail
  go_ret
  exact ⟨none,0,0,rfl,by rw [HF.out];exact own_nil _ _,HB.out⟩
 | true =>
  have hgp:gn=pn:=by have h1:=(validIt_out HVB.out).2.2.1;rw [HL.out.2.1,HL.out.2.2] at h1;exact h1
  have HG:=hid hgp
  have hgp2:pn≤gn:=by omega
  clear hgp
  have HF:=hid (pathF_yes HVB.out)
  go_enter Try.func23,Try.ntmps23
  go_wp2_with fail
  refine (implValidIt ar a n c rows la ln lc lw ga gn gc gh pa pn pc ps _ (beIter (B:=w.heap.size) HI.out belA hh) leA).mono ?_
  rintro e w1 ⟨rfl,hb1⟩
  rw [HVB.out]
  have hb2:Below w.heap.size w w1:=Below.trans belA (hb1.mono leA)
  have c0:w1.cell? ⟨w.heap.size,0,none⟩=some (.int .i64 ar):=(by rw [(bcell hb1).1 _ _ (by first | omega | (simp;done) | (simp;omega))];first | with_reducible assumption | (go_simp;done) | assumption | (simp [World.cell?];done))
  have c1:w1.cell? ⟨w.heap.size,1,none⟩=some (.slice a n c):=(by rw [(bcell hb1).1 _ _ (by first | omega | (simp;done) | (simp;omega))];first | with_reducible assumption | (go_simp;done) | assumption | (simp [World.cell?];done))
  have c2:w1.cell? ⟨w.heap.size,2,none⟩=some (.slice la ln lc):=(by rw [(bcell hb1).1 _ _ (by first | omega | (simp;done) | (simp;omega))];first | with_reducible assumption | (go_simp;done) | assumption | (simp [World.cell?];done))
  have c3:w1.cell? ⟨w.heap.size,3,none⟩=some (.slice ga gn gc):=(by rw [(bcell hb1).1 _ _ (by first | omega | (simp;done) | (simp;omega))];first | with_reducible assumption | (go_simp;done) | assumption | (simp [World.cell?];done))
  have c4:w1.cell? ⟨w.heap.size,4,none⟩=some (.slice pa pn pc):=(by rw [(bcell hb1).1 _ _ (by first | omega | (simp;done) | (simp;omega))];first | with_reducible assumption | (go_simp;done) | assumption | (simp [World.cell?];done))
  have hz0:w.heap.size<w1.heap.size:=World.block_lt_of_cell? _ _ c0
  have HB:=hid hb2;clear hb1 hb2
  have HI1:=hid (beIter HI.out HB.out hh)
  go_wp2_with fail
  go_loopw [3,12] (fun v i wr=>∃ (k:Nat) (ao:Option Addr) (m co:Nat),i=.int .i64 k∧v=.slice ao m co∧k≤pn∧Own w1.heap.size wr ao m co (pathTo rows gh ps k)∧Below w1.heap.size w1 wr) (fun _ i _=>pn - (intOf i).toNat)
  case atStart=>exact ⟨0,none,0,0,rfl,rfl,by omega,own_nil _ _,Below.refl _ _⟩
  case round =>
   obtain ⟨k,ao,m,co,rfl,rfl,hk,hown,hbel⟩:=hrel
   have hm:m≤k:=by have g1:=hown.len;have g2:=pathTo_len rows gh ps k;omega
   have hk2:k≤1048576:=by omega
   have hzw:=hbel.size
   have hbw:Below w.heap.size w wr:=HB.out.trans (hbel.mono (by omega))
   have HI2:=hid (beIter HI1.out hbel (by omega))
   have HO1:=hid hown
   have HB1:=hid (And.intro hbel hbw)
   by_cases hlt:k<pn
   ·replace c1:wr.cell? ⟨w.heap.size,1,none⟩=some (.slice a n c):=by rw [(bcell hbel).1 _ _ hz0];exact c1
    replace c3:wr.cell? ⟨w.heap.size,3,none⟩=some (.slice ga gn gc):=by rw [(bcell hbel).1 _ _ hz0];exact c3
    clear hown hbel hbw c0 c2 c4
    have hkg:k<gn:=by omega
    obtain ⟨gb,go',rfl,d2,_⟩:=intsAt HI2.out.2.2.1 hkg
    obtain ⟨pb,po',rfl,d3,_⟩:=intsAt HI2.out.2.2.2 hlt
    by_cases hlt2:ix ps k<ix gh k
    ·obtain ⟨hp1,hp2,hp3⟩:=lev_row HVB.out (k:=k) (by rw [HL.out.2.2];exact hlt) hlt2
     have hput:=pathTo_put (rows:=rows) hlt2
     obtain ⟨p,hp⟩:∃ p,px ps k=p:=⟨_,rfl⟩
     rw [hp] at hp1 hp2 hp3 hput
     have hpn2:p<n:=by have:=HL.out.1;omega
     obtain ⟨b,off,rfl⟩:=RowsA.some HI2.out.1.2 (show 0<n by omega)
     obtain ⟨b2,off2,rn,rc,y0,y1,y2,y3,y4,y5⟩:=rowsKey (k:=k) HI2.out.1.2 hpn2 hp3
     rw [hp1] at d3
     generalize hkk:kx rows p k=kk at *
     generalize hxg:ix gh k=xg at *
     have hlt3:(p:Int)<xg:=by omega
     have HP:=hid (And.intro hput (And.intro hp1 (And.intro hkk (And.intro hxg (And.intro hp2 (And.intro hp3 (And.intro hp hlt2)))))));clear hput hp1 hkk hxg hp2 hp3 hp hlt2
     go_wp2_with (at_builtin;refine wpApp rfl (.tmp 24) (.tmp 34) rfl w1.heap.size ao m co _ rfl (HO1.out.alloc _) _ 1 1 _ rfl (one_ints _ _ _ y5) (by omega) (by simp;omega) ?_)
     intro a1 c1' w2 ho2 hg2
     have hb2:Below w1.heap.size w1 w2:=ho0' HO1.out HB1.out.1 hzw hg2
     have HO2:=hid ho2;clear ho2
     have HB2:=hid hb2;clear hb2 hg2
     go_wp2
     go_roundw
     case rel=>exact ⟨k+1,a1,m+1,c1',by go_num,rfl,by omega,by rw [HP.out.1];exact HO2.out,HB2.out⟩
     case measure=>simp [intOf];omega
    ·have hkeep:=pathTo_keep (rows:=rows) hlt2
     generalize hxg:ix gh k=xg at *
     generalize hxp:ix ps k=xp at *
     have HP:=hid (And.intro hkeep (And.intro hxg hxp));clear hkeep hxg hxp
     go_wp2_with fail
     go_roundw
     case rel=>exact ⟨k+1,ao,m,co,by go_num,rfl,by omega,by rw [HP.out.1];exact HO1.out,HB1.out.1⟩
     case measure=>simp [intOf];omega
   ·clear hown hbel hbw
    go_wp2_with fail
    go_ret
    have hky:k=pn:=by omega
    exact ⟨_,_,_,rfl,by rw [HF.out,HL.out.2.2,← hky];exact HO1.out.low (by have:=HB.out.size;omega),HB1.out.2⟩
end Go.Proofs.Ytfobmfngbfbfdaa
namespace Go.Proofs.Ytfobmfngbfbfdaa
set_option linter.unusedSimpArgs false
set_option linter.unusedVariables false
open Go.RowKit
theorem own_empty1 (w:World) (base g:Nat) (hb:base≤g) (hg:w.heap[g]? = some (.cells #[] 3 (0,0))):Own base w (some ⟨g,0,none⟩) 0 0 [] :=
 ⟨⟨rfl,.inr ⟨g,0,#[],rfl,hb,hg,Nat.le_refl _,by simp [maxLen],rfl,rfl⟩⟩,fun _ h=>(by cases h)⟩
theorem al1' (W:World) (A B:Obj):((W.alloc A).alloc B).heap[W.heap.size+1]? = some B:=by
 have:=heap_alloc_new (W.alloc A) B
 simpa using this
theorem hoS {B:Nat} {w wr w1:World} {o:Obj} {a:Option Addr} {n c:Nat} {xs:List Int} (h:Own B wr a n c xs) (hb:Below B w wr) (hB:B≤wr.heap.size) (hg:(wr.drew.alloc o).grownBy w1 (Value.slice a n c).ownBlock):Below B w w1 :=
 ((below_drew1 hb).alloc hB o).grown hg (by simp;omega) (fun k hk=>by have:=h.1.lt k hk;omega)
theorem Own.drew1 {base:Nat} {w:World} {a:Option Addr} {n c:Nat} {xs:List Int} (h:Own base w a n c xs):Own base w.drew a n c xs:=h
theorem ownToV {base:Nat} {w:World} {a:Option Addr} {n c:Nat} {xs:List Int} (h:Own base w a n c xs):OwnV 3 base w a n c (xs.map (Value.int .i64)) :=
 ⟨h.1,fun u hu=>by obtain ⟨x,_,rfl⟩:=List.mem_map.1 hu;rfl⟩
theorem vToOwn {base:Nat} {w:World} {a:Option Addr} {n c:Nat} {xs:List Int} {x:Int} (h:OwnV 3 base w a n c (xs.map (Value.int .i64) ++ [.int .i64 x])) (hx:∀ y∈xs,I64 y) (h1:I64 x):Own base w a n c (xs ++ [x]) :=
 ⟨by simpa using h.1,fun y hy=>(List.mem_append.1 hy).elim (hx y) (fun hy=>by simp only [List.mem_singleton] at hy;subst hy;exact h1)⟩
set_option maxRecDepth 100000 in
set_option maxHeartbeats 6400000 in
theorem specPath {fz:Bool} {lo hi:Nat} (ar:Int) (a:Option Addr) (n c:Nat) (rows:List (List Int)) (la:Option Addr) (ln lc:Nat) (lw:List Int) (ga:Option Addr) (gn gc:Nat) (gh:List Int) (pa:Option Addr) (pn pc:Nat) (ps:List Int) (w:World)
 (hI:IterA fz lo hi w ar a n c rows la ln lc lw ga gn gc gh pa pn pc ps) (hh:hi≤w.heap.size) (hn:ps.length≤1048576) :
 Calls Try.prog 19 #[iterV ar a n c la ln lc ga gn gc pa pn pc] w (GivesOwn w (pathF ar rows lw gh ps)):=by
 have hl1:=hI.1.2.len
 have hl3:=hI.2.2.1.len
 have hl4:=hI.2.2.2.len
 have hs1:=hI.1.2.small
 have hs3:=hI.2.2.1.small
 have hs4:=hI.2.2.2.small
 have hpn:pn≤1048576:=by omega
 have HL:=hid (And.intro hl1 (And.intro hl3 hl4));clear hl1 hl3 hl4 hn
 obtain ⟨W,hW⟩:∃ W,W=(w.alloc (.cells #[.int .i64 ar,.slice a n c,.slice la ln lc,.slice ga gn gc,.slice pa pn pc] 29)).alloc (.cells #[] 3):=⟨_,rfl⟩
 have hBW:Below w.heap.size w W:=by rw [hW];exact belA
 have hIW:=beIter hI hBW hh
 have c0:W.cell? ⟨w.heap.size,0,none⟩=some (.int .i64 ar):=by rw [hW];first | (go_simp;done) | (simp [World.cell?];done)
 have c1:W.cell? ⟨w.heap.size,1,none⟩=some (.slice a n c):=by rw [hW];first | (go_simp;done) | (simp [World.cell?];done)
 have c2:W.cell? ⟨w.heap.size,2,none⟩=some (.slice la ln lc):=by rw [hW];first | (go_simp;done) | (simp [World.cell?];done)
 have c3:W.cell? ⟨w.heap.size,3,none⟩=some (.slice ga gn gc):=by rw [hW];first | (go_simp;done) | (simp [World.cell?];done)
 have c4:W.cell? ⟨w.heap.size,4,none⟩=some (.slice pa pn pc):=by rw [hW];first | (go_simp;done) | (simp [World.cell?];done)
 have ho:Own (w.heap.size+1) W (some ⟨w.heap.size+1,0,none⟩) 0 0 []:=own_empty1 _ _ _ (Nat.le_refl _) (by rw [hW];exact al1' _ _ _)
 have hz:w.heap.size+1<W.heap.size:=by rw [hW];simp
 obtain ⟨vb,hvb⟩:∃ vb,validIt ar rows lw gh ps=vb:=⟨_,rfl⟩
 have HVB:=hid hvb;clear hvb
 have HW:=hid (And.intro hW (And.intro hBW (And.intro hI (And.intro hIW ho))));clear hW hBW hI hIW ho
 cases vb with
 | false =>
  have HF:=hid (pathF_no HVB.out)
  by_cases hp0:0<pn
  ·go_enter Try.func19,Try.ntmps19
   go_upto_region 2 with fail
   rw [← HW.out.1]
   go_wp2_with fail
   go_loopw [3,4] (fun v i wr=>i=.int .i64 0∧v=.slice (some ⟨w.heap.size+1,0,none⟩) 0 0∧wr=W) (fun _ i _=>pn - (intOf i).toNat)
   case atStart=>exact ⟨rfl,rfl,rfl⟩
   case round =>
    obtain ⟨rfl,rfl,rfl⟩:=hrel
    go_wp2_with fail
    refine (specValidIt ar a n c rows la ln lc lw ga gn gc gh pa pn pc ps _ HW.out.2.2.2.1 (by omega)).mono ?_
    rintro e w1 ⟨rfl,hb1⟩
    rw [HVB.out]
    have HB:=hid hb1;clear hb1
    go_wp2_with fail
    go_ret
    exact ⟨_,_,_,rfl,by rw [HF.out];exact (HW.out.2.2.2.2.keep (Keeps.of_below HB.out (Nat.le_refl _))).low (by omega),HW.out.2.1.trans (HB.out.mono (by omega))⟩
  ·have hp1:pn=0:=by omega
   subst hp1
   go_enter Try.func19,Try.ntmps19
   go_upto_region 2 with fail
   rw [← HW.out.1]
   go_wp2_with fail
   go_loopw [3,4] (fun v i wr=>i=.int .i64 0∧v=.slice (some ⟨w.heap.size+1,0,none⟩) 0 0∧wr=W) (fun _ i _=>1 - (intOf i).toNat)
   case atStart=>exact ⟨rfl,rfl,rfl⟩
   case round =>
    obtain ⟨rfl,rfl,rfl⟩:=hrel
    go_wp2_with fail
    go_ret
    exact ⟨_,_,_,rfl,by rw [HF.out];exact HW.out.2.2.2.2.low (by omega),HW.out.2.1⟩
 | true =>
  have hgp:gn=pn:=by have h1:=(validIt_out HVB.out).2.2.1;rw [HL.out.2.1,HL.out.2.2] at h1;exact h1
  have HG:=hid hgp
  have hgp2:pn≤gn:=by omega
  clear hgp
  have HF:=hid (pathF_yes HVB.out)
  go_enter Try.func19,Try.ntmps19
  go_upto_region 2 with fail
  rw [← HW.out.1]
  go_wp2_with fail
  go_loopw [3,4] (fun v i wr=>∃ (k:Nat) (ao:Option Addr) (m co:Nat),i=.int .i64 k∧v=.slice ao m co∧k≤pn∧Own (w.heap.size+1) wr ao m co (pathTo rows gh ps k)∧Below (w.heap.size+1) W wr) (fun _ i _=>pn - (intOf i).toNat)
  case atStart=>exact ⟨0,_,0,0,rfl,rfl,by omega,HW.out.2.2.2.2,Below.refl _ _⟩
  case round =>
   obtain ⟨k,ao,m,co,rfl,rfl,hk,hown,hbel⟩:=hrel
   have hm:m≤k:=by have g1:=hown.len;have g2:=pathTo_len rows gh ps k;omega
   have hk2:k≤1048576:=by omega
   have hzw:=hbel.size
   have hbw:Below w.heap.size w wr:=HW.out.2.1.trans (hbel.mono (by omega))
   have HIr:=hid (beIter HW.out.2.2.1 hbw hh)
   have k0:wr.cell? ⟨w.heap.size,0,none⟩=some (.int .i64 ar):=by rw [hbel.cell (p:=⟨w.heap.size,0,none⟩) (by simp)];exact c0
   have k1:wr.cell? ⟨w.heap.size,1,none⟩=some (.slice a n c):=by rw [hbel.cell (p:=⟨w.heap.size,1,none⟩) (by simp)];exact c1
   have k2:wr.cell? ⟨w.heap.size,2,none⟩=some (.slice la ln lc):=by rw [hbel.cell (p:=⟨w.heap.size,2,none⟩) (by simp)];exact c2
   have k3:wr.cell? ⟨w.heap.size,3,none⟩=some (.slice ga gn gc):=by rw [hbel.cell (p:=⟨w.heap.size,3,none⟩) (by simp)];exact c3
   have k4:wr.cell? ⟨w.heap.size,4,none⟩=some (.slice pa pn pc):=by rw [hbel.cell (p:=⟨w.heap.size,4,none⟩) (by simp)];exact c4
   have HO:=hid hown
   have HB:=hid (And.intro hbel hbw)
   clear hown hbel hbw
   by_cases hlt:k<pn
   ·go_wp2_with fail
    refine (specValidIt ar a n c rows la ln lc lw ga gn gc gh pa pn pc ps _ HIr.out (by omega)).mono ?_
    rintro e w3 ⟨rfl,hb3⟩
    rw [HVB.out]
    have hzz:w.heap.size<wr.heap.size:=by omega
    have hz3:=hb3.size
    replace k1:w3.cell? ⟨w.heap.size,1,none⟩=some (.slice a n c):=by rw [(bcell hb3).1 _ _ hzz];exact k1
    replace k3:w3.cell? ⟨w.heap.size,3,none⟩=some (.slice ga gn gc):=by rw [(bcell hb3).1 _ _ hzz];exact k3
    replace k4:w3.cell? ⟨w.heap.size,4,none⟩=some (.slice pa pn pc):=by rw [(bcell hb3).1 _ _ hzz];exact k4
    have HI2:=hid (beIter HIr.out hb3 (by omega))
    have HO3:=hid (HO.out.keep (Keeps.of_below hb3 (Nat.le_refl _)))
    have HB3:=hid (HB.out.1.trans (hb3.mono (by omega)))
    clear hb3 k0 k2
    have hkg:k<gn:=by omega
    obtain ⟨gb,go',rfl,d2,_⟩:=intsAt HI2.out.2.2.1 hkg
    obtain ⟨pb,po',rfl,d3,_⟩:=intsAt HI2.out.2.2.2 hlt
    by_cases hlt2:ix ps k<ix gh k
    ·obtain ⟨hp1,hp2,hp3⟩:=lev_row HVB.out (k:=k) (by rw [HL.out.2.2];exact hlt) hlt2
     have hput:=pathTo_put (rows:=rows) hlt2
     obtain ⟨p,hp⟩:∃ p,px ps k=p:=⟨_,rfl⟩
     rw [hp] at hp1 hp2 hp3 hput
     have hpn2:p<n:=by have:=HL.out.1;omega
     obtain ⟨b,off,rfl⟩:=RowsA.some HI2.out.1.2 (show 0<n by omega)
     obtain ⟨b2,off2,rn,rc,y0,y1,y2,y3,y4,y5⟩:=rowsKey (k:=k) HI2.out.1.2 hpn2 hp3
     have hb2lt:b2<w.heap.size+1:=by
      obtain ⟨_,_,ra,rn',rc',q0,q1,_⟩:=RowsA.at HI2.out.1.2 hpn2
      rw [y0] at q0
      simp only [Option.some.injEq,Value.slice.injEq] at q0
      obtain ⟨rfl,rfl,rfl⟩:=q0
      obtain ⟨b',o',e,_,h2,_⟩:=q1.open (by omega)
      simp only [Option.some.injEq,Addr.mk.injEq,and_true] at e
      omega
     rw [hp1] at d3
     generalize hkk:kx rows p k=kk at *
     generalize hxg:ix gh k=xg at *
     have hlt3:(p:Int)<xg:=by omega
     have HP:=hid (And.intro hput (And.intro hp1 (And.intro hkk (And.intro hxg (And.intro hp2 (And.intro hp3 (And.intro hp hlt2)))))));clear hput hp1 hkk hxg hp2 hp3 hp hlt2
     go_wp2_with fail
     go_quiet (fail)
     go_wp2_with fail
     generalize hw4:World.drewN w3 _=w4
     replace k1:w4.cell? ⟨w.heap.size,1,none⟩=some (.slice (some ⟨b,off,none⟩) n c):=by rw [← hw4];exact k1
     replace k4:w4.cell? ⟨w.heap.size,4,none⟩=some (.slice (some ⟨pb,po',none⟩) pn pc):=by rw [← hw4];exact k4
     replace d3:w4.cell? ⟨pb,po'+k,none⟩=some (.int .i64 p):=by rw [← hw4];exact d3
     replace y0:w4.cell? ⟨b,off+p,none⟩=some (.slice (some ⟨b2,off2,none⟩) rn rc):=by rw [← hw4];exact y0
     replace y4:w4.cell? ⟨b2,off2+k,none⟩=some (.int .i64 kk):=by rw [← hw4];exact y4
     have HO4:Hid (Own (w.heap.size+1) w4 ao m co (pathTo rows gh ps k)):=hid (by rw [← hw4];exact HO3.out.drewN _)
     have HB4:Hid (Below (w.heap.size+1) W w4):=hid (by rw [← hw4];exact below_drewN HB3.out _)
     have hz4:w.heap.size+1≤w4.heap.size:=by rw [← hw4];show _≤w3.heap.size;omega
     clear hw4 d2 k3
     have hgb:b<w.heap.size+1:=by have:=HW.out.2.2.1.1.2.open (show 0<n by omega);obtain ⟨b',o',e,_,h2,_⟩:=this;simp only [Option.some.injEq,Addr.mk.injEq,and_true] at e;omega
     have hgb2:b2<w.heap.size+1:=hb2lt
     have hgp:pb<w.heap.size+1:=by have:=HW.out.2.2.1.2.2.2.open (show 0<pn by omega);obtain ⟨b',o',e,_,h2,_⟩:=this;simp only [Option.some.injEq,Addr.mk.injEq,and_true] at e;omega
     have hgw:w.heap.size<w.heap.size+1:=by omega
     go_region_held3 (fun w'=>w'.cell? ⟨w.heap.size,1,none⟩=some (.slice (some ⟨b,off,none⟩) n c)∧w'.cell? ⟨w.heap.size,4,none⟩=some (.slice (some ⟨pb,po',none⟩) pn pc)∧w'.cell? ⟨pb,po'+k,none⟩=some (.int .i64 p)∧w'.cell? ⟨b,off+p,none⟩=some (.slice (some ⟨b2,off2,none⟩) rn rc)∧w'.cell? ⟨b2,off2+k,none⟩=some (.int .i64 kk)) (first | go_keep | (refine ⟨?_,?_,?_,?_,?_⟩ <;> assumption))
      ((refine stepAppV elemInt (by rfl) (.tmp 28) (.tmp 42) (by rfl) (w.heap.size+1) ao m co _ (by rfl) (ownToV ((HO4.out.drew1).alloc _)) _ 1 1 _ (by rfl) (vals_one _ _ 3 _ rfl 0 _ (Nat.zero_le _) (Nat.lt_succ_self _) (heap_alloc_new _ _)) (by omega) (by simp;omega) ?_;intro a1 c1' w5 ho2 hg2;have hb5:Below (w.heap.size+1) W w5:=hoS HO4.out HB4.out hz4 hg2;have j1:w5.cell? ⟨w.heap.size,1,none⟩=some (.slice (some ⟨b,off,none⟩) n c):=(by rw [hb5.cell (p:=⟨w.heap.size,1,none⟩) hgw,← HB4.out.cell (p:=⟨w.heap.size,1,none⟩) hgw];exact k1);have j2:w5.cell? ⟨w.heap.size,4,none⟩=some (.slice (some ⟨pb,po',none⟩) pn pc):=(by rw [hb5.cell (p:=⟨w.heap.size,4,none⟩) hgw,← HB4.out.cell (p:=⟨w.heap.size,4,none⟩) hgw];exact k4);have j3:w5.cell? ⟨pb,po'+k,none⟩=some (.int .i64 p):=(by rw [hb5.cell (p:=⟨pb,po'+k,none⟩) hgp,← HB4.out.cell (p:=⟨pb,po'+k,none⟩) hgp];exact d3);have j4:w5.cell? ⟨b,off+p,none⟩=some (.slice (some ⟨b2,off2,none⟩) rn rc):=(by rw [hb5.cell (p:=⟨b,off+p,none⟩) hgb,← HB4.out.cell (p:=⟨b,off+p,none⟩) hgb];exact y0);have j5:w5.cell? ⟨b2,off2+k,none⟩=some (.int .i64 kk):=(by rw [hb5.cell (p:=⟨b2,off2+k,none⟩) hgb2,← HB4.out.cell (p:=⟨b2,off2+k,none⟩) hgb2];exact y4);replace ho2:=hid (vToOwn ho2 HO4.out.2 y5);have HB5:=hid hb5;clear hb5 hg2))
     go_wp2
     go_roundw
     case rel=>exact ⟨k+1,a1,m+1,c1',by go_num,rfl,by omega,by rw [HP.out.1];exact ho2.out,HB5.out⟩
     case measure=>simp [intOf];omega
    ·have hkeep:=pathTo_keep (rows:=rows) hlt2
     generalize hxg:ix gh k=xg at *
     generalize hxp:ix ps k=xp at *
     have HP:=hid (And.intro hkeep (And.intro hxg hxp));clear hkeep hxg hxp
     go_wp2_with fail
     go_quiet (fail)
     go_wp2_with fail
     go_roundw
     case rel=>exact ⟨k+1,ao,m,co,by go_num,rfl,by omega,by rw [HP.out.1];exact HO3.out.drewN _,below_drewN HB3.out _⟩
     case measure=>simp [intOf];omega
   ·go_wp2_with fail
    go_ret
    have hky:k=pn:=by omega
    exact ⟨_,_,_,rfl,by rw [HF.out,HL.out.2.2,← hky];exact HO.out.low (by omega),HB.out.2⟩
end Go.Proofs.Ytfobmfngbfbfdaa
namespace Go.Proofs.Ytfobmfngbfbfdaa
set_option linter.unusedSimpArgs false
set_option linter.unusedVariables false
open Go.RowKit
def cmpP (rows:List (List Int)) (p:List Int) (i:Nat):Int:=cmpR ((rx rows i).take p.length) p
noncomputable def preLo (rows:List (List Int)) (p:List Int):Nat:=firstIx (fun i=>¬ cmpP rows p i<0) rows.length
noncomputable def preHi (rows:List (List Int)) (p:List Int):Nat:=firstIx (fun i=>preLo rows p≤i∧cmpP rows p i ≠ 0) rows.length
noncomputable def preOK (ar:Int) (rows:List (List Int)) (p:List Int):Bool:=validR ar rows && decide ((p.length:Int)≤ar)
noncomputable def rangeLo (ar:Int) (rows:List (List Int)) (p:List Int):Nat:=if preOK ar rows p=true then preLo rows p else 0
noncomputable def rangeHi (ar:Int) (rows:List (List Int)) (p:List Int):Nat:=if preOK ar rows p=true then preHi rows p else 0
theorem preLo_le (rows:List (List Int)) (p:List Int):preLo rows p≤rows.length:=firstIx_le _ _
theorem preLo_eq {rows:List (List Int)} {p:List Int} {k:Nat} (h:∀ i,i<k→cmpP rows p i<0) (hk:k≤rows.length) (he:k<rows.length→¬ cmpP rows p k<0):preLo rows p=k:=by
 unfold preLo
 by_cases g:k<rows.length
 ·exact firstIx_eq (p:=fun i=>¬ cmpP rows p i<0) g (he g) fun j hj hn=>hn (h j hj)
 ·obtain rfl:k=rows.length:=by omega
  exact firstIx_none fun i hi hn=>hn (h i hi)
theorem preHi_eq {rows:List (List Int)} {p:List Int} {k:Nat} (hlo:preLo rows p≤k) (h:∀ i,preLo rows p≤i→i<k→cmpP rows p i=0) (hk:k≤rows.length) (he:k<rows.length→¬ cmpP rows p k=0):preHi rows p=k:=by
 unfold preHi
 by_cases g:k<rows.length
 ·exact firstIx_eq (p:=fun i=>preLo rows p≤i∧cmpP rows p i ≠ 0) g ⟨hlo,he g⟩ fun j hj hn=>hn.2 (h j hn.1 hj)
 ·obtain rfl:k=rows.length:=by omega
  exact firstIx_none fun i hi hn=>hn.2 (h i hn.1 hi)
theorem range_no {ar:Int} {rows:List (List Int)} {p:List Int} (h:preOK ar rows p=false):rangeLo ar rows p=0∧rangeHi ar rows p=0:=by
 unfold rangeLo rangeHi;rw [h];simp
theorem range_yes {ar:Int} {rows:List (List Int)} {p:List Int} (h:preOK ar rows p=true):rangeLo ar rows p=preLo rows p∧rangeHi ar rows p=preHi rows p:=by
 unfold rangeLo rangeHi;rw [h];simp
theorem preOK_mk {ar:Int} {rows:List (List Int)} {p:List Int} (h1:validR ar rows=true) (h2:(p.length:Int)≤ar):preOK ar rows p=true:=by simp [preOK,h1,h2]
theorem preOK_len {ar:Int} {rows:List (List Int)} {p:List Int} (h2:¬ (p.length:Int)≤ar):preOK ar rows p=false:=by
 simp only [preOK,Bool.and_eq_false_iff,decide_eq_false_iff_not];exact .inr h2
theorem preOK_val {ar:Int} {rows:List (List Int)} {p:List Int} (h1:validR ar rows=false):preOK ar rows p=false:=by simp [preOK,h1]
abbrev twoV (x y:Int):Value:=.tuple #[.int .i64 x,.int .i64 y]
end Go.Proofs.Ytfobmfngbfbfdaa
