/- Lemmas for the proof of FnIteration, part 20 of 22: no condition of their own. -/
import Derived.Test.YtfobmfngbfbfdaaJ16
import Derived.Test.YtfobmfngbfbfdaaJ19
import Derived.Test.YtfobmfngbfbfdaaJ18
import Derived.Test.YtfobmfngbfbfdaaJ2
import Derived.Deep.CutBlock
import Derived.Deep.DeepCutAuto
import Derived.Test.YtfobmfngbfbfdaaJ8
import Derived.Test.YtfobmfngbfbfdaaJ3
import Derived.Test.YtfobmfngbfbfdaaJ1
import Derived.ProofKit
import Derived.OpenShut
import Derived.ShutString
import Derived.ChangeOld
import Derived.Below
import Derived.Deep.Slices
import Derived.Test.YtfobmfngbfbfdaaJ15
import Derived.ChangeSame
namespace Go.Proofs.Ytfobmfngbfbfdaa
set_option linter.unusedSimpArgs false
set_option linter.unusedVariables false
attribute [local go_sem ↓] reduceIte
attribute [local go_sem] Nat.reduceEqDiff Nat.reduceLT Nat.reduceAdd Nat.reduceLeDiff Nat.reduceMul Nat.reduceBEq Nat.reduceSub reduceCtorEq Int.reduceLE Int.reduceNeg Int.reduceLT
open Go.RowKit
structure ItFit (rows:List (List Int)) (lw gh ps:List Int) (q:Nat):Prop where
 len:rows.length≤5000
 row:∀ x∈rows,x.length≤10
 l1:lw.length=ps.length
 l2:gh.length=ps.length
 n:ps.length≤q
structure ItAny (rows:List (List Int)) (lw gh ps:List Int):Prop where
 len:rows.length≤5000
 row:∀ x∈rows,x.length≤10
 l1:lw.length≤10
 l2:gh.length≤10
 n:ps.length≤10
theorem lens_le {rows:List (List Int)} (h:∀ x∈rows,x.length≤10):∀ k,k≤rows.length→lens rows k≤10*k
 | 0,_=>by simp [lens]
 | k+1,hk=>by
  have:=lens_le h k (by omega)
  have h2:(rx rows k).length≤10:=h _ (by rw [rx_lt (by omega)];exact List.getElem_mem _)
  simp only [lens];omega
theorem rows_sz {rows:List (List Int)} (h1:rows.length≤5000) (h:∀ x∈rows,x.length≤10):rowsSz rows≤55000:=by
 have:=lens_le h rows.length (Nat.le_refl _)
 unfold rowsSz;omega
theorem ItFit.any {rows:List (List Int)} {lw gh ps:List Int} {q:Nat} (h:ItFit rows lw gh ps q) (hq:q≤10):ItAny rows lw gh ps:=⟨h.len,h.row,by have:=h.l1;have:=h.n;omega,by have:=h.l2;have:=h.n;omega,by have:=h.n;omega⟩
theorem ItAny.sz {rows:List (List Int)} {lw gh ps:List Int} (h:ItAny rows lw gh ps):szIter rows lw gh ps≤1048576:=by
 have:=rows_sz h.len h.row
 have:=h.l1;have:=h.l2;have:=h.n
 unfold szIter;omega
def anyIt (r:AV):Prop:=∃ (ar:Int) (rows:List (List Int)) (lw gh ps:List Int),ItAny rows lw gh ps∧r=.d (itD ar rows lw gh ps)
def fitIt (r:AV):Prop:=∃ (ar:Int) (rows:List (List Int)) (lw gh ps:List Int),ItFit rows lw gh ps 7∧r=.d (itD ar rows lw gh ps)
theorem ni_fit {ar:Int} {rows:List (List Int)} (h:RelAny ar rows):ItFit (niRows ar rows) [] [] [] 0:=by
 unfold niRows
 split
 ·exact ⟨h.len,h.row,rfl,rfl,Nat.le_refl _⟩
 ·exact ⟨Nat.zero_le _,fun x hx=>(by cases hx),rfl,rfl,Nat.le_refl _⟩
section
variable {ar:Int} {rows:List (List Int)} {lw gh ps:List Int} {q:Nat} (h:ItFit rows lw gh ps q)
include h
theorem ItFit.up:ItFit rows lw gh ps (q+1):=⟨h.len,h.row,h.l1,h.l2,by have:=h.n;omega⟩
theorem ItFit.open' (ok:Bool) (a b c:Nat):ItFit rows (opT ok lw a) (opT ok gh b) (opT ok ps c) (q+1):=by
 have:=h.l1;have:=h.l2;have:=h.n
 cases ok with
 | true=>exact ⟨h.len,h.row,by simp [opT,h.l1],by simp [opT,h.l2],by simp [opT];omega⟩
 | false=>exact ⟨h.len,h.row,by simp [opT,h.l1],by simp [opT,h.l2],by simp [opT];omega⟩
theorem ItFit.close (ok:Bool):ItFit rows (clT ok ps.length lw) (clT ok ps.length gh) (clT ok ps.length ps) (q+1):=by
 have:=h.l1;have:=h.l2;have:=h.n
 cases ok with
 | true=>exact ⟨h.len,h.row,by simp [clT,h.l1],by simp [clT,h.l2],by simp [clT];omega⟩
 | false=>exact ⟨h.len,h.row,by simp [clT,h.l1],by simp [clT,h.l2],by simp [clT];omega⟩
theorem ItFit.pos {ps':List Int} (e:ps'.length=ps.length):ItFit rows lw gh ps' (q+1):=⟨h.len,h.row,by rw [e];exact h.l1,by rw [e];exact h.l2,by have:=h.n;omega⟩
end
theorem nextP_len (ar:Int) (rows:List (List Int)) (lw gh ps:List Int):(nextP ar rows lw gh ps).length=ps.length:=by
 unfold nextP;split <;> simp
theorem seekP_len (ar:Int) (rows:List (List Int)) (lw gh ps:List Int) (v:Int):(seekP ar rows lw gh ps v).length=ps.length:=by
 unfold seekP;split <;> simp
abbrev pkN:Pk:=⟨false,fun _=>True⟩
set_option maxHeartbeats 4000000 in
theorem l17IterA:AFn 45 [.ptr 0 0] [curL] (fun r os=>fitIt r∧os=[curL]):=by
 refine afn_of (rv:=[.cell 2 29]) tyT_ok Try.func45 rfl (by decide +kernel) Try.ntmps45 rfl (by simp) ?_
 repeat' (first | refine sq ?_ | refine stp ?_ | refine blk_o (by decide) ?_ | (apply cb;(focus (simp (disch:=(first | omega | (simp;omega))) only [go_sem,w64];try exact rfl));refine cok ?_) | (refine rgT ?_;intro K hK) | (refine dA ?_;intro K hK) | (with_reducible refine hK _ ?_;clear hK K) | (refine stq ?_;simp (disch:=(first | omega | (simp;omega))) only [go_sem,w64]) | refine as1 ?_ | fail)
 (refine callL 1000000 (l16TrieA) ?_)
 rintro r os ⟨⟨ar,rows,hA,rfl⟩,rfl⟩
 refine ⟨by decide,?_⟩
 have hsz:=rows_sz hA.len hA.row
 repeat' (first | refine sq ?_ | refine stp ?_ | refine blk_o (by decide) ?_ | (apply cb;(focus (simp (disch:=(first | omega | (simp;omega))) only [go_sem,w64,relD];try exact rfl));refine cok ?_) | (refine rgT ?_;intro K hK) | (refine dA ?_;intro K hK) | (with_reducible refine hK _ ?_;clear hK K) | (refine stq ?_;simp (disch:=(first | omega | (simp;omega))) only [go_sem,w64,relD]) | refine as1 ?_ | fail)
 (first | refine callA (specNewItA ar rows (by omega)) ?_ | refine callD (specNewItA ar rows (by omega)) ?_ | refine callE (specNewItA ar rows (by omega)) ?_ | refine callF (specNewItA ar rows (by omega)) ?_ ?_)
 have hF:=ni_fit hA
 generalize niRows ar rows=rows2 at *
 generalize niAr ar rows=ar2 at *
 repeat' (first | refine sq ?_ | refine stp ?_ | refine blk_o (by decide) ?_ | (apply cb;(focus (simp (disch:=(first | omega | (simp;omega))) only [go_sem,w64,relD];try exact rfl));refine cok ?_) | (refine rgT ?_;intro K hK) | (refine dA ?_;intro K hK) | (with_reducible refine hK _ ?_;clear hK K) | (refine stq ?_;simp (disch:=(first | omega | (simp;omega))) only [go_sem,w64,relD]) | refine as1 ?_ | fail)
 (refine callL 1000000 (l1BelowA 7) ?_)
 rintro r os ⟨n,⟨hn0,_,hn1⟩,rfl,rfl⟩
 have hn2:=hn1 (by omega)
 obtain ⟨m,rfl⟩:∃ m:Nat,n=m:=⟨n.toNat,by omega⟩
 refine ⟨by decide,?_⟩
 repeat' (first | refine sq ?_ | refine stp ?_ | refine blk_o (by decide) ?_ | (apply cb;(focus (simp (disch:=(first | omega | (simp;omega))) only [go_sem,w64];try exact rfl));refine cok ?_) | (refine rgT ?_;intro K hK) | (refine dA ?_;intro K hK) | (with_reducible refine hK _ ?_;clear hK K) | (refine stq ?_;simp (disch:=(first | omega | (simp;omega))) only [go_sem,w64]) | refine as1 ?_ | fail)
 refine awp_loopw (fun mm s=>∃ (k:Nat) (ar:Int) (rows:List (List Int)) (lw gh ps:List Int),mm=k∧k≤6∧ItFit rows lw gh ps (6 - k)∧s=mkS [(0,.ptr 1000000 0),(2,.ptr 2 0),(3,.ptr 3 0),(5,.d (.int (k:Nat)))] [(2,[.d (.int 0),.nil,.nil,.nil,.nil]),(3,[.d (.int ar),.d (rowsD rows),.d (intsD lw),.d (intsD gh),.d (intsD ps)]),(1000000,curL)]) ?_ ?_
 ·refine ⟨_,_,?_,m,ar2,rows2,[],[],[],rfl,by omega,⟨hF.len,hF.row,rfl,rfl,Nat.zero_le _⟩,rfl⟩
  exact sleA
 ·rintro k s ⟨_,ar,rows,lw,gh,ps,rfl,hk,hF,rfl⟩
  have hsz:szIter rows lw gh ps≤1048576:=(hF.any (by omega)).sz
  have w4:1≤k→IntKind.i64.wrap ((k:Int) - 1)=((k - 1:Nat):Int):=fun h=>by rw [w64 (by omega)];omega
  repeat' (first | refine sq ?_ | refine stp ?_ | refine blk_o (by decide) ?_ | (apply cb;(focus (simp (disch:=(first | omega | (simp;omega))) only [go_sem,w64];try exact rfl));refine cok ?_) | (refine rgT ?_;intro K hK) | (refine dA ?_;intro K hK) | (with_reducible refine hK _ ?_;clear hK K) | (refine stq ?_;simp (disch:=(first | omega | (simp;omega))) only [go_sem,w64]) | refine as1 ?_ | fail)
  refine awp_if (p:=(0:Int)<(k:Nat)) (by simp (disch:=(first | omega | (simp;omega))) only [go_sem,w64]) ?_ ?_ <;> intro hc
  ·have hk1:1≤k:=by omega
   have w5:=w4 hk1
   repeat' (first | refine sq ?_ | refine stp ?_ | refine blk_o (by decide) ?_ | (apply cb;(focus (simp (disch:=(first | omega | (simp;omega))) only [go_sem,w64];try exact rfl));refine cok ?_) | (refine rgT ?_;intro K hK) | (refine dA ?_;intro K hK) | (with_reducible refine hK _ ?_;clear hK K) | (refine stq ?_;simp (disch:=(first | omega | (simp;omega))) only [go_sem,w64]) | refine as1 ?_ | fail)
   (refine callL 1000000 (l1BelowA 5) ?_)
   rintro r os ⟨x,⟨x0,_,x1⟩,rfl,rfl⟩
   have x2:=x1 (by omega)
   refine ⟨by decide,?_⟩
   by_cases c01:x=0∨x=1
   ·have fin:∀ q:Bool,True:=fun _=>trivial
    have hO:=specOpenA ar rows lw gh ps hsz
    have hF2:=hF.open' (opOK ar rows lw gh ps) (bnd rows ps ps.length).1 (bnd rows ps ps.length).2 (bnd rows ps ps.length).1
    generalize opT (opOK ar rows lw gh ps) lw (bnd rows ps ps.length).1=lw2 at *
    generalize opT (opOK ar rows lw gh ps) gh (bnd rows ps ps.length).2=gh2 at *
    generalize opT (opOK ar rows lw gh ps) ps (bnd rows ps ps.length).1=ps2 at *
    rcases c01 with e | e
    ·have e0:x=0↔True:=iff_of_true e trivial
     repeat' (first | refine sq ?_ | refine stp ?_ | refine blk_o (by decide) ?_ | (apply cb;(focus (simp (disch:=(first | omega | (simp;omega))) only [go_sem,w64,e0,w5];try exact rfl));refine cok ?_) | (refine rgT ?_;intro K hK) | (refine dA ?_;intro K hK) | (with_reducible refine hK _ ?_;clear hK K) | (refine stq ?_;simp (disch:=(first | omega | (simp;omega))) only [go_sem,w64,e0,w5]) | refine as1 ?_ | fail)
     (first | refine callA (hO) ?_ | refine callD (hO) ?_ | refine callE (hO) ?_ | refine callF (hO) ?_ ?_)
     repeat' (first | refine sq ?_ | refine stp ?_ | refine blk_o (by decide) ?_ | (apply cb;(focus (simp (disch:=(first | omega | (simp;omega))) only [go_sem,w64,e0,w5];try exact rfl));refine cok ?_) | (refine rgT ?_;intro K hK) | (refine dA ?_;intro K hK) | (with_reducible refine hK _ ?_;clear hK K) | (refine stq ?_;simp (disch:=(first | omega | (simp;omega))) only [go_sem,w64,e0,w5]) | refine as1 ?_ | fail)
     refine ⟨k - 1,_,by omega,?_,k - 1,ar,rows,lw2,gh2,ps2,rfl,by omega,by rw [show 6 - (k - 1)=6 - k+1 by omega];exact hF2,rfl⟩
     exact sleA
    ·have e0:x=0↔False:=iff_of_false (by omega) id
     have e1:x=1↔True:=iff_of_true e trivial
     repeat' (first | refine sq ?_ | refine stp ?_ | refine blk_o (by decide) ?_ | (apply cb;(focus (simp (disch:=(first | omega | (simp;omega))) only [go_sem,w64,e0,e1,w5];try exact rfl));refine cok ?_) | (refine rgT ?_;intro K hK) | (refine dA ?_;intro K hK) | (with_reducible refine hK _ ?_;clear hK K) | (refine stq ?_;simp (disch:=(first | omega | (simp;omega))) only [go_sem,w64,e0,e1,w5]) | refine as1 ?_ | fail)
     (first | refine callA (hO) ?_ | refine callD (hO) ?_ | refine callE (hO) ?_ | refine callF (hO) ?_ ?_)
     repeat' (first | refine sq ?_ | refine stp ?_ | refine blk_o (by decide) ?_ | (apply cb;(focus (simp (disch:=(first | omega | (simp;omega))) only [go_sem,w64,e0,w5];try exact rfl));refine cok ?_) | (refine rgT ?_;intro K hK) | (refine dA ?_;intro K hK) | (with_reducible refine hK _ ?_;clear hK K) | (refine stq ?_;simp (disch:=(first | omega | (simp;omega))) only [go_sem,w64,e0,w5]) | refine as1 ?_ | fail)
     refine ⟨k - 1,_,by omega,?_,k - 1,ar,rows,lw2,gh2,ps2,rfl,by omega,by rw [show 6 - (k - 1)=6 - k+1 by omega];exact hF2,rfl⟩
     exact sleA
   ·have e0:x=0↔False:=iff_of_false (by omega) id
    have e1:x=1↔False:=iff_of_false (by omega) id
    by_cases c2:x=2
    ·have e2:x=2↔True:=iff_of_true c2 trivial
     have hO:=specNextA ar rows lw gh ps hsz
     have hF2:=hF.pos (nextP_len ar rows lw gh ps)
     generalize nextP ar rows lw gh ps=ps2 at *
     repeat' (first | refine sq ?_ | refine stp ?_ | refine blk_o (by decide) ?_ | (apply cb;(focus (simp (disch:=(first | omega | (simp;omega))) only [go_sem,w64,e0,e1,e2,w5];try exact rfl));refine cok ?_) | (refine rgT ?_;intro K hK) | (refine dA ?_;intro K hK) | (with_reducible refine hK _ ?_;clear hK K) | (refine stq ?_;simp (disch:=(first | omega | (simp;omega))) only [go_sem,w64,e0,e1,e2,w5]) | refine as1 ?_ | fail)
     (first | refine callA (hO) ?_ | refine callD (hO) ?_ | refine callE (hO) ?_ | refine callF (hO) ?_ ?_)
     repeat' (first | refine sq ?_ | refine stp ?_ | refine blk_o (by decide) ?_ | (apply cb;(focus (simp (disch:=(first | omega | (simp;omega))) only [go_sem,w64,e0,w5];try exact rfl));refine cok ?_) | (refine rgT ?_;intro K hK) | (refine dA ?_;intro K hK) | (with_reducible refine hK _ ?_;clear hK K) | (refine stq ?_;simp (disch:=(first | omega | (simp;omega))) only [go_sem,w64,e0,w5]) | refine as1 ?_ | fail)
     refine ⟨k - 1,_,by omega,?_,k - 1,ar,rows,lw,gh,ps2,rfl,by omega,by rw [show 6 - (k - 1)=6 - k+1 by omega];exact hF2,rfl⟩
     exact sleA
    ·have e2:x=2↔False:=iff_of_false c2 id
     by_cases c3:x=3
     ·have e3:x=3↔True:=iff_of_true c3 trivial
      repeat' (first | refine sq ?_ | refine stp ?_ | refine blk_o (by decide) ?_ | (apply cb;(focus (simp (disch:=(first | omega | (simp;omega))) only [go_sem,w64,e0,e1,e2,e3,w5];try exact rfl));refine cok ?_) | (refine rgT ?_;intro K hK) | (refine dA ?_;intro K hK) | (with_reducible refine hK _ ?_;clear hK K) | (refine stq ?_;simp (disch:=(first | omega | (simp;omega))) only [go_sem,w64,e0,e1,e2,e3,w5]) | refine as1 ?_ | fail)
      (refine callDL (j:=0) 1000000 (l1BelowA 5) ?_ ?_)
      ·exact ⟨_,_,0,⟨by omega,fun _=>rfl,fun h=>h⟩,rfl,rfl⟩
      rintro r os ⟨v,hv,rfl,rfl⟩
      refine ⟨[],rfl,by decide,?_⟩
      have hO:=specSeekA ar rows lw gh ps hsz v
      have hF2:=hF.pos (seekP_len ar rows lw gh ps v)
      generalize seekP ar rows lw gh ps v=ps2 at *
      repeat' (first | refine sq ?_ | refine stp ?_ | refine blk_o (by decide) ?_ | (apply cb;(focus (simp (disch:=(first | omega | (simp;omega))) only [go_sem,w64,e0,e1,e2,e3,w5];try exact rfl));refine cok ?_) | (refine rgT ?_;intro K hK) | (refine dA ?_;intro K hK) | (with_reducible refine hK _ ?_;clear hK K) | (refine stq ?_;simp (disch:=(first | omega | (simp;omega))) only [go_sem,w64,e0,e1,e2,e3,w5]) | refine as1 ?_ | fail)
      (first | refine callA (hO) ?_ | refine callD (hO) ?_ | refine callE (hO) ?_ | refine callF (hO) ?_ ?_)
      repeat' (first | refine sq ?_ | refine stp ?_ | refine blk_o (by decide) ?_ | (apply cb;(focus (simp (disch:=(first | omega | (simp;omega))) only [go_sem,w64,e0,w5];try exact rfl));refine cok ?_) | (refine rgT ?_;intro K hK) | (refine dA ?_;intro K hK) | (with_reducible refine hK _ ?_;clear hK K) | (refine stq ?_;simp (disch:=(first | omega | (simp;omega))) only [go_sem,w64,e0,w5]) | refine as1 ?_ | fail)
      refine ⟨k - 1,_,by omega,?_,k - 1,ar,rows,lw,gh,ps2,rfl,by omega,by rw [show 6 - (k - 1)=6 - k+1 by omega];exact hF2,rfl⟩
      exact sleA
     ·have e3:x=3↔False:=iff_of_false c3 id
      have hO:=specCloseA ar rows lw gh ps hsz
      have hF2:=hF.close (clOK ar rows lw gh ps)
      generalize clT (clOK ar rows lw gh ps) ps.length lw=lw2 at *
      generalize clT (clOK ar rows lw gh ps) ps.length gh=gh2 at *
      generalize clT (clOK ar rows lw gh ps) ps.length ps=ps2 at *
      repeat' (first | refine sq ?_ | refine stp ?_ | refine blk_o (by decide) ?_ | (apply cb;(focus (simp (disch:=(first | omega | (simp;omega))) only [go_sem,w64,e0,e1,e2,e3,w5];try exact rfl));refine cok ?_) | (refine rgT ?_;intro K hK) | (refine dA ?_;intro K hK) | (with_reducible refine hK _ ?_;clear hK K) | (refine stq ?_;simp (disch:=(first | omega | (simp;omega))) only [go_sem,w64,e0,e1,e2,e3,w5]) | refine as1 ?_ | fail)
      (first | refine callA (hO) ?_ | refine callD (hO) ?_ | refine callE (hO) ?_ | refine callF (hO) ?_ ?_)
      repeat' (first | refine sq ?_ | refine stp ?_ | refine blk_o (by decide) ?_ | (apply cb;(focus (simp (disch:=(first | omega | (simp;omega))) only [go_sem,w64,e0,w5];try exact rfl));refine cok ?_) | (refine rgT ?_;intro K hK) | (refine dA ?_;intro K hK) | (with_reducible refine hK _ ?_;clear hK K) | (refine stq ?_;simp (disch:=(first | omega | (simp;omega))) only [go_sem,w64,e0,w5]) | refine as1 ?_ | fail)
      refine ⟨k - 1,_,by omega,?_,k - 1,ar,rows,lw2,gh2,ps2,rfl,by omega,by rw [show 6 - (k - 1)=6 - k+1 by omega];exact hF2,rfl⟩
      exact sleA
  ·obtain rfl:k=0:=by omega
   repeat' (first | refine sq ?_ | refine stp ?_ | refine blk_o (by decide) ?_ | (apply cb;(focus (simp (disch:=(first | omega | (simp;omega))) only [go_sem,w64];try exact rfl));refine cok ?_) | (refine rgT ?_;intro K hK) | (refine dA ?_;intro K hK) | (with_reducible refine hK _ ?_;clear hK K) | (refine stq ?_;simp (disch:=(first | omega | (simp;omega))) only [go_sem,w64]) | refine as1 ?_ | fail)
   refine end1 0 (.inr rfl) (by simp (disch:=(first | omega | (simp;omega))) only [go_sem,w64];rfl) (by simp (disch:=(first | omega | (simp;omega))) only [go_sem,w64];rfl) (r:=.d (itD ar rows lw gh ps)) (by simp (disch:=(first | omega | (simp;omega))) only [go_sem,w64];exact .refl _) ⟨⟨_,_,_,_,_,⟨hF.len,hF.row,hF.l1,hF.l2,by have:=hF.n;omega⟩,rfl⟩,rfl⟩
theorem ItAny.sim {rows rows':List (List Int)} {lw gh ps lw' gh' ps':List Int} (h:ItAny rows lw gh ps) (n1:rows'.length=rows.length) (n2:∀ x∈rows',x.length=0∨∃ y∈rows,x.length=y.length) (n3:lw'.length=lw.length) (n4:gh'.length=gh.length) (n5:ps'.length=ps.length):ItAny rows' lw' gh' ps' :=
 ⟨by rw [n1];exact h.len,fun x hx=>by
  rcases n2 x hx with e | ⟨y,hy,e⟩
  ·omega
  ·rw [e];exact h.row y hy,by rw [n3];exact h.l1,by rw [n4];exact h.l2,by rw [n5];exact h.n⟩
set_option maxRecDepth 100000 in
set_option maxHeartbeats 4000000 in
theorem l17AnyA:AFn 25 [.ptr 0 0] [curL] (fun r os=>anyIt r∧os=[curL]):=by
 refine afn_ofC (rv:=[.cell 2 29]) tyT_ok Try.func25 rfl (by decide +kernel) Try.ntmps25 rfl (by simp) nod_args nod_cur ?_
 repeat' (first | refine sq ?_ | refine stp ?_ | refine blk_o (by decide) ?_ | (apply cb;(focus (simp (disch:=(first | omega | (simp;omega))) only [go_sem,w64];try exact rfl));refine cok ?_) | (refine rgT ?_;intro K hK) | (refine dA ?_;intro K hK) | (with_reducible refine hK _ ?_;clear hK K) | (refine stq ?_;simp (disch:=(first | omega | (simp;omega))) only [go_sem,w64]) | refine as1 ?_ | fail)
 (refine callL 1000000 (l17IterA) ?_)
 rintro r os ⟨⟨ar,rows,lw,gh,ps,hF,rfl⟩,rfl⟩
 refine ⟨by decide,?_⟩
 have hA:=hF.any (by omega)
 have hpm:(ps.map DV.int).length=ps.length:=List.length_map ..
 have q1:=hF.l1
 have q2:=hF.l2
 have q3:=hF.n
 by_cases h0:ps.length=0
 ·have z0:decide (((ps.length:Nat):Int)=0)=true:=decide_eq_true (by omega)
  repeat' (first | refine sq ?_ | refine stp ?_ | refine blk_o (by decide) ?_ | (apply cb;(focus (simp (disch:=(first | omega | (simp;omega))) only [go_sem,w64,intsD,hpm,z0];try exact rfl));refine cok ?_) | (refine rgT ?_;intro K hK) | (refine dA ?_;intro K hK) | (with_reducible refine hK _ ?_;clear hK K) | (refine stq ?_;simp (disch:=(first | omega | (simp;omega))) only [go_sem,w64,intsD,hpm,z0]) | refine as1 ?_ | fail)
  refine end1 0 (.inr rfl) (by simp (disch:=(first | omega | (simp;omega))) only [go_sem,w64];rfl) (by simp (disch:=(first | omega | (simp;omega))) only [go_sem,w64];rfl) (r:=.d (itD ar rows lw gh ps)) (by simp (disch:=(first | omega | (simp;omega))) only [go_sem,w64];exact .refl _) ⟨⟨_,_,_,_,_,hA,rfl⟩,rfl⟩
 have z0:decide (((ps.length:Nat):Int)=0)=false:=decide_eq_false (by omega)
 repeat' (first | refine sq ?_ | refine stp ?_ | refine blk_o (by decide) ?_ | (apply cb;(focus (simp (disch:=(first | omega | (simp;omega))) only [go_sem,w64,intsD,hpm,z0];try exact rfl));refine cok ?_) | (refine rgT ?_;intro K hK) | (refine dA ?_;intro K hK) | (with_reducible refine hK _ ?_;clear hK K) | (refine stq ?_;simp (disch:=(first | omega | (simp;omega))) only [go_sem,w64,intsD,hpm,z0]) | refine as1 ?_ | fail)
 (refine callL 1000000 (l1OnceA 5) ?_)
 rintro r os ⟨b,rfl,rfl⟩
 refine ⟨by decide,?_⟩
 cases b with
 | false =>
  repeat' (first | refine sq ?_ | refine stp ?_ | refine blk_o (by decide) ?_ | (apply cb;(focus (simp (disch:=(first | omega | (simp;omega))) only [go_sem,w64,intsD,hpm,z0];try exact rfl));refine cok ?_) | (refine rgT ?_;intro K hK) | (refine dA ?_;intro K hK) | (with_reducible refine hK _ ?_;clear hK K) | (refine stq ?_;simp (disch:=(first | omega | (simp;omega))) only [go_sem,w64,intsD,hpm,z0]) | refine as1 ?_ | fail)
  refine end1 0 (.inr rfl) (by simp (disch:=(first | omega | (simp;omega))) only [go_sem,w64];rfl) (by simp (disch:=(first | omega | (simp;omega))) only [go_sem,w64];rfl) (r:=.d (itD ar rows lw gh ps)) (by simp (disch:=(first | omega | (simp;omega))) only [go_sem,w64];exact .refl _) ⟨⟨_,_,_,_,_,hA,rfl⟩,rfl⟩
 | true =>
  repeat' (first | refine sq ?_ | refine stp ?_ | refine blk_o (by decide) ?_ | (apply cb;(focus (simp (disch:=(first | omega | (simp;omega))) only [go_sem,w64,intsD,hpm,z0];try exact rfl));refine cok ?_) | (with_reducible refine hK _ ?_;clear hK K) | (refine stq ?_;simp (disch:=(first | omega | (simp;omega))) only [go_sem,w64,intsD,hpm,z0]) | refine as1 ?_ | fail)
  refine awp_weak (s':=mkS [(0,.ptr 1000000 0),(2,.ptr 2 0),(3,.ptr 3 0),(4,.d (.int (ps.length:Nat)))] [(2,[.d (.int 0),.nil,.nil,.nil,.nil]),(3,[.d (.int ar),.d (rowsD rows),.d (intsD lw),.d (intsD gh),.d (intsD ps)]),(1000000,curL)]) (by exact sleA) ?_
  repeat' (first | refine sq ?_ | refine stp ?_ | refine blk_o (by decide) ?_ | (apply cb;(focus (simp (disch:=(first | omega | (simp;omega))) only [go_sem,w64];try exact rfl));refine cok ?_) | (refine rgT ?_;intro K hK) | (refine dA ?_;intro K hK) | (with_reducible refine hK _ ?_;clear hK K) | (refine stq ?_;simp (disch:=(first | omega | (simp;omega))) only [go_sem,w64]) | refine as1 ?_ | fail)
  (refine callL 1000000 (l1BelowA 4) ?_)
  rintro r os ⟨k,⟨k0,_,k1⟩,rfl,rfl⟩
  have k2:=k1 (by omega)
  refine ⟨by decide,?_⟩
  have w4:IntKind.i64.wrap (((ps.length:Nat):Int) - 1)=((ps.length - 1:Nat):Int):=by rw [w64 (by omega)];omega
  have r0:(ps.map DV.int).getD (ps.length - 1) (.bool false)=.int (ix ps (ps.length - 1)):=getDI (by omega)
  have r1:(gh.map DV.int).getD (ps.length - 1) (.bool false)=.int (ix gh (ps.length - 1)):=getDI (by omega)
  by_cases c0:k=0
  ·have e0:k=0↔True:=iff_of_true c0 trivial
   have hgm:(gh.map DV.int).length=gh.length:=List.length_map ..
   repeat' (first | refine sq ?_ | refine stp ?_ | refine blk_o (by decide) ?_ | (apply cb;(focus (simp (disch:=(first | omega | (simp;omega))) only [go_sem,w64,e0,w4];try exact rfl));refine cok ?_) | (refine rgT ?_;intro K hK) | (with_reducible refine hK _ ?_;clear hK K) | (refine stq ?_;simp (disch:=(first | omega | (simp;omega))) only [go_sem,w64,e0,w4]) | refine as1 ?_ | fail)
   refine awp_drawL (o:=?p0) tyT_ok (by kernel_rfl) 8 ?t1_0 ?t2_0 ?t3_0 ?t4_0 ?t5_0 ?t6_0
   case t2_0=>rfl
   case t1_0=>rfl
   case t3_0=>rfl
   case t4_0=>kernel_rfl
   case t5_0=>kernel_rfl
   intro K hK
   repeat' (first | refine sq ?_ | refine stp ?_ | refine blk_o (by decide) ?_ | (apply cb;(focus (simp (disch:=(first | omega | (simp;omega))) only [go_sem,w64,r0,w4,intsD];try exact rfl));refine cok ?_) | (with_reducible refine hK _ ?_;clear hK K) | (refine stq ?_;simp (disch:=(first | omega | (simp;omega))) only [go_sem,w64,r0,w4,intsD]) | refine as1 ?_ | fail)
   (refine callDL (j:=0) 1000000 (l1BelowA 9) ?_ ?_)
   ·exact ⟨_,_,0,⟨by omega,fun _=>rfl,fun h=>by omega⟩,rfl,rfl⟩
   rintro rr os ⟨x,⟨x0,_,x1⟩,rfl,rfl⟩
   have x2:=x1 (by omega)
   have w5:IntKind.i64.wrap (x - 1)=x - 1:=w64 (by omega)
   refine ⟨[],rfl,by decide,?_⟩
   repeat' (first | refine sq ?_ | refine stp ?_ | refine blk_o (by decide) ?_ | (apply cb;(focus (simp (disch:=(first | omega | (simp;omega))) only [go_sem,w64,r0,w4,w5,intsD];try exact rfl));refine cok ?_) | (with_reducible refine hK _ ?_;clear hK K) | (refine stq ?_;simp (disch:=(first | omega | (simp;omega))) only [go_sem,w64,r0,w4,w5,intsD]) | refine as1 ?_ | fail)
   refine LStep.weak (s0:=mkS [(2,.ptr 2 0),(3,.ptr 3 0),(31,.d (.int (x - 1))),(32,.loc [.int (ix ps (ps.length - 1))])] [(2,[.d (.int 0),.nil,.nil,.nil,.nil]),(3,[.d (.int ar),.d (rowsD rows),.d (intsD lw),.d (intsD gh),.d (intsD ps)]),(1000000,curL)]) (by exact sleA) ?_
   refine lstep_poke tyT_ok pkN (T:=3) (p:=.tmp 32) (x:=.tmp 31) (y:=.int (x - 1)) rfl rfl rfl rfl rfl rfl rfl (by decide) (by exact Nat.le_refl 1) rfl (fun _ _=>trivial) ?_
   intro s' hs'
   obtain ⟨l2,ho2,_,_,rfl,⟨_,rfl,rfl⟩,_,_,rfl,rfl,_,_,rfl,rfl,_,_,rfl,rfl,_,_,rfl,rfl,rfl⟩:=ssim_ob 2 hs' rfl
   obtain ⟨l3,ho3,_,_,rfl,⟨_,rfl,rfl⟩,_,_,rfl,⟨_,rfl,ra,rfl,hra⟩,_,_,rfl,⟨_,rfl,rb,rfl,hrb⟩,_,_,rfl,⟨_,rfl,rc,rfl,hrc⟩,_,_,rfl,⟨_,rfl,rd,rfl,hrd⟩,rfl⟩:=ssim_ob 3 hs' rfl
   obtain ⟨lc,hoc,hlc⟩:=ssim_ob 1000000 hs' rfl
   obtain ⟨rows',rfl,n1,n2⟩:=csims_rows hra
   obtain ⟨lw',rfl,n3⟩:=csims_ints hrb
   obtain ⟨gh',rfl,n4⟩:=csims_ints hrc
   obtain ⟨ps',rfl,n5⟩:=csims_ints hrd
   have t2:s'.tm 2=.ptr 2 0:=ssim_tm 2 hs' rfl
   have t3:s'.tm 3=.ptr 3 0:=ssim_tm 3 hs' rfl
   have hA':=hA.sim n1 n2 n3 n4 n5
   refine hK _ ?_
   clear hK
   repeat' (first | refine sq ?_ | refine stp ?_ | refine blk_o (by decide) ?_ | (apply cb;(focus (simp (disch:=(first | omega | (simp;omega))) only [go_sem,w64];try exact rfl));refine cok ?_) | (with_reducible refine hK _ ?_;clear hK K) | (refine stq ?_;simp (disch:=(first | omega | (simp;omega))) only [go_sem,w64]) | refine as1 ?_ | fail)
   refine awp_weak (s':=mkS [(2,.ptr 2 0),(3,.ptr 3 0)] [(2,[.d (.int 0),.nil,.nil,.nil,.nil]),(3,[.d (.int ar),.d (rowsD rows'),.d (intsD lw'),.d (intsD gh'),.d (intsD ps')]),(1000000,curL)]) (sle_mk ⟨t2 ▸ .refl _,t3 ▸ .refl _,trivial⟩ ⟨⟨_,ho2,ales_eq rfl⟩,⟨_,ho3,ales_eq rfl⟩,⟨_,hoc,cur_sim hlc⟩,trivial⟩) ?_
   repeat' (first | refine sq ?_ | refine stp ?_ | refine blk_o (by decide) ?_ | (apply cb;(focus (simp (disch:=(first | omega | (simp;omega))) only [go_sem,w64];try exact rfl));refine cok ?_) | (refine rgT ?_;intro K hK) | (refine dA ?_;intro K hK) | (with_reducible refine hK _ ?_;clear hK K) | (refine stq ?_;simp (disch:=(first | omega | (simp;omega))) only [go_sem,w64]) | refine as1 ?_ | fail)
   refine end1 0 (.inr rfl) (by simp (disch:=(first | omega | (simp;omega))) only [go_sem,w64];rfl) (by simp (disch:=(first | omega | (simp;omega))) only [go_sem,w64];rfl) (r:=.d (itD ar rows' lw' gh' ps')) (by simp (disch:=(first | omega | (simp;omega))) only [go_sem,w64];exact .refl _) ⟨⟨_,_,_,_,_,hA',rfl⟩,rfl⟩
  have e0:k=0↔False:=iff_of_false c0 id
  by_cases c1:k=1
  ·have e1:k=1↔True:=iff_of_true c1 trivial
   have hgm:(gh.map DV.int).length=gh.length:=List.length_map ..
   repeat' (first | refine sq ?_ | refine stp ?_ | refine blk_o (by decide) ?_ | (apply cb;(focus (simp (disch:=(first | omega | (simp;omega))) only [go_sem,w64,e0,e1,w4];try exact rfl));refine cok ?_) | (refine rgT ?_;intro K hK) | (with_reducible refine hK _ ?_;clear hK K) | (refine stq ?_;simp (disch:=(first | omega | (simp;omega))) only [go_sem,w64,e0,e1,w4]) | refine as1 ?_ | fail)
   refine awp_drawL (o:=?p1) tyT_ok (by kernel_rfl) 7 ?t1_1 ?t2_1 ?t3_1 ?t4_1 ?t5_1 ?t6_1
   case t2_1=>rfl
   case t1_1=>rfl
   case t3_1=>rfl
   case t4_1=>kernel_rfl
   case t5_1=>kernel_rfl
   intro K hK
   repeat' (first | refine sq ?_ | refine stp ?_ | refine blk_o (by decide) ?_ | (apply cb;(focus (simp (disch:=(first | omega | (simp;omega))) only [go_sem,w64,r1,w4,intsD];try exact rfl));refine cok ?_) | (with_reducible refine hK _ ?_;clear hK K) | (refine stq ?_;simp (disch:=(first | omega | (simp;omega))) only [go_sem,w64,r1,w4,intsD]) | refine as1 ?_ | fail)
   (refine callDL (j:=0) 1000000 (l1BelowA 9) ?_ ?_)
   ·exact ⟨_,_,0,⟨by omega,fun _=>rfl,fun h=>by omega⟩,rfl,rfl⟩
   rintro rr os ⟨x,⟨x0,_,x1⟩,rfl,rfl⟩
   have x2:=x1 (by omega)
   have w5:IntKind.i64.wrap (x - 1)=x - 1:=w64 (by omega)
   refine ⟨[],rfl,by decide,?_⟩
   repeat' (first | refine sq ?_ | refine stp ?_ | refine blk_o (by decide) ?_ | (apply cb;(focus (simp (disch:=(first | omega | (simp;omega))) only [go_sem,w64,r1,w4,w5,intsD];try exact rfl));refine cok ?_) | (with_reducible refine hK _ ?_;clear hK K) | (refine stq ?_;simp (disch:=(first | omega | (simp;omega))) only [go_sem,w64,r1,w4,w5,intsD]) | refine as1 ?_ | fail)
   refine LStep.weak (s0:=mkS [(2,.ptr 2 0),(3,.ptr 3 0),(40,.d (.int x)),(41,.loc [.int (ix gh (ps.length - 1))])] [(2,[.d (.int 0),.nil,.nil,.nil,.nil]),(3,[.d (.int ar),.d (rowsD rows),.d (intsD lw),.d (intsD gh),.d (intsD ps)]),(1000000,curL)]) (by exact sleA) ?_
   refine lstep_poke tyT_ok pkN (T:=3) (p:=.tmp 41) (x:=.tmp 40) (y:=.int x) rfl rfl rfl rfl rfl rfl rfl (by decide) (by exact Nat.le_refl 1) rfl (fun _ _=>trivial) ?_
   intro s' hs'
   obtain ⟨l2,ho2,_,_,rfl,⟨_,rfl,rfl⟩,_,_,rfl,rfl,_,_,rfl,rfl,_,_,rfl,rfl,_,_,rfl,rfl,rfl⟩:=ssim_ob 2 hs' rfl
   obtain ⟨l3,ho3,_,_,rfl,⟨_,rfl,rfl⟩,_,_,rfl,⟨_,rfl,ra,rfl,hra⟩,_,_,rfl,⟨_,rfl,rb,rfl,hrb⟩,_,_,rfl,⟨_,rfl,rc,rfl,hrc⟩,_,_,rfl,⟨_,rfl,rd,rfl,hrd⟩,rfl⟩:=ssim_ob 3 hs' rfl
   obtain ⟨lc,hoc,hlc⟩:=ssim_ob 1000000 hs' rfl
   obtain ⟨rows',rfl,n1,n2⟩:=csims_rows hra
   obtain ⟨lw',rfl,n3⟩:=csims_ints hrb
   obtain ⟨gh',rfl,n4⟩:=csims_ints hrc
   obtain ⟨ps',rfl,n5⟩:=csims_ints hrd
   have t2:s'.tm 2=.ptr 2 0:=ssim_tm 2 hs' rfl
   have t3:s'.tm 3=.ptr 3 0:=ssim_tm 3 hs' rfl
   have hA':=hA.sim n1 n2 n3 n4 n5
   refine hK _ ?_
   clear hK
   repeat' (first | refine sq ?_ | refine stp ?_ | refine blk_o (by decide) ?_ | (apply cb;(focus (simp (disch:=(first | omega | (simp;omega))) only [go_sem,w64];try exact rfl));refine cok ?_) | (with_reducible refine hK _ ?_;clear hK K) | (refine stq ?_;simp (disch:=(first | omega | (simp;omega))) only [go_sem,w64]) | refine as1 ?_ | fail)
   refine awp_weak (s':=mkS [(2,.ptr 2 0),(3,.ptr 3 0)] [(2,[.d (.int 0),.nil,.nil,.nil,.nil]),(3,[.d (.int ar),.d (rowsD rows'),.d (intsD lw'),.d (intsD gh'),.d (intsD ps')]),(1000000,curL)]) (sle_mk ⟨t2 ▸ .refl _,t3 ▸ .refl _,trivial⟩ ⟨⟨_,ho2,ales_eq rfl⟩,⟨_,ho3,ales_eq rfl⟩,⟨_,hoc,cur_sim hlc⟩,trivial⟩) ?_
   repeat' (first | refine sq ?_ | refine stp ?_ | refine blk_o (by decide) ?_ | (apply cb;(focus (simp (disch:=(first | omega | (simp;omega))) only [go_sem,w64];try exact rfl));refine cok ?_) | (refine rgT ?_;intro K hK) | (refine dA ?_;intro K hK) | (with_reducible refine hK _ ?_;clear hK K) | (refine stq ?_;simp (disch:=(first | omega | (simp;omega))) only [go_sem,w64]) | refine as1 ?_ | fail)
   refine end1 0 (.inr rfl) (by simp (disch:=(first | omega | (simp;omega))) only [go_sem,w64];rfl) (by simp (disch:=(first | omega | (simp;omega))) only [go_sem,w64];rfl) (r:=.d (itD ar rows' lw' gh' ps')) (by simp (disch:=(first | omega | (simp;omega))) only [go_sem,w64];exact .refl _) ⟨⟨_,_,_,_,_,hA',rfl⟩,rfl⟩
  have e1:k=1↔False:=iff_of_false c1 id
  have hlm:(lw.map DV.int).length=lw.length:=List.length_map ..
  by_cases c2:k=2
  ·have e2:k=2↔True:=iff_of_true c2 trivial
   have hd:List.drop (Int.toNat 1) (List.take lw.length (lw.map DV.int))=(lw.drop 1).map DV.int:=by
    rw [List.take_of_length_le (by simp),List.map_drop];rfl
   repeat' (first | refine sq ?_ | refine stp ?_ | refine blk_o (by decide) ?_ | (apply cb;(focus (simp (disch:=(first | omega | (simp;omega))) only [go_sem,w64,e0,e1,e2,intsD,hlm,hd];try exact rfl));refine cok ?_) | (refine rgT ?_;intro K hK) | (refine dA ?_;intro K hK) | (with_reducible refine hK _ ?_;clear hK K) | (refine stq ?_;simp (disch:=(first | omega | (simp;omega))) only [go_sem,w64,e0,e1,e2,intsD,hlm,hd]) | refine as1 ?_ | fail)
   refine end1 0 (.inr rfl) (by simp (disch:=(first | omega | (simp;omega))) only [go_sem,w64];rfl) (by simp (disch:=(first | omega | (simp;omega))) only [go_sem,w64];rfl) (r:=.d (itD ar rows (lw.drop 1) gh ps)) (by simp (disch:=(first | omega | (simp;omega))) only [go_sem,w64];exact .refl _) ⟨⟨_,_,_,_,_,⟨hA.len,hA.row,by rw [List.length_drop];have:=hA.l1;omega,hA.l2,hA.n⟩,rfl⟩,rfl⟩
  ·have e2:k=2↔False:=iff_of_false c2 id
   repeat' (first | refine sq ?_ | refine stp ?_ | refine blk_o (by decide) ?_ | (apply cb;(focus (simp (disch:=(first | omega | (simp;omega))) only [go_sem,w64,e0,e1,e2];try exact rfl));refine cok ?_) | (refine rgT ?_;intro K hK) | (refine dA ?_;intro K hK) | (with_reducible refine hK _ ?_;clear hK K) | (refine stq ?_;simp (disch:=(first | omega | (simp;omega))) only [go_sem,w64,e0,e1,e2]) | refine as1 ?_ | fail)
   (refine callL 1000000 (l16AnyA) ?_)
   rintro r os ⟨⟨ar2,rows2,hA2,rfl⟩,rfl⟩
   refine ⟨by decide,?_⟩
   repeat' (first | refine sq ?_ | refine stp ?_ | refine blk_o (by decide) ?_ | (apply cb;(focus (simp (disch:=(first | omega | (simp;omega))) only [go_sem,w64,relD];try exact rfl));refine cok ?_) | (refine rgT ?_;intro K hK) | (refine dA ?_;intro K hK) | (with_reducible refine hK _ ?_;clear hK K) | (refine stq ?_;simp (disch:=(first | omega | (simp;omega))) only [go_sem,w64,relD]) | refine as1 ?_ | fail)
   refine end1 0 (.inr rfl) (by simp (disch:=(first | omega | (simp;omega))) only [go_sem,w64];rfl) (by simp (disch:=(first | omega | (simp;omega))) only [go_sem,w64];rfl) (r:=.d (itD ar2 rows2 lw gh ps)) (by simp (disch:=(first | omega | (simp;omega))) only [go_sem,w64];exact .refl _) ⟨⟨_,_,_,_,_,⟨hA2.len,hA2.row,hA.l1,hA.l2,hA.n⟩,rfl⟩,rfl⟩
theorem drawSeekA (code:List Int) (hl:code.length≤1048576):AFn 6 [.d (.sl 1 (code.map .byte))] [] (fun r os=>∃ (ar:Int) (rows:List (List Int)) (lw gh ps:List Int) (v:Int),ItAny rows lw gh ps∧r=.tup [.d (itD ar rows lw gh ps),.d (.int v)]∧os=[]):=by
 refine afn_of (rv:=[.cell 2 29,.tmp 3]) tyT_ok Try.func6 rfl (by decide +kernel) Try.ntmps6 rfl (by simp) ?_
 repeat' (first | refine sq ?_ | refine stp ?_ | refine blk_o (by decide) ?_ | (apply cb;(focus (simp (disch:=(first | omega | (simp;omega))) only [go_sem,w64];try exact rfl));refine cok ?_) | (refine rgT ?_;intro K hK) | (refine dA ?_;intro K hK) | (with_reducible refine hK _ ?_;clear hK K) | (refine stq ?_;simp (disch:=(first | omega | (simp;omega))) only [go_sem,w64]) | refine as1 ?_ | fail)
 refine call2 (l1NewA code hl) ?_
 repeat' (first | refine sq ?_ | refine stp ?_ | refine blk_o (by decide) ?_ | (apply cb;(focus (simp (disch:=(first | omega | (simp;omega))) only [go_sem,w64];try exact rfl));refine cok ?_) | (refine rgT ?_;intro K hK) | (refine dA ?_;intro K hK) | (with_reducible refine hK _ ?_;clear hK K) | (refine stq ?_;simp (disch:=(first | omega | (simp;omega))) only [go_sem,w64]) | refine as1 ?_ | fail)
 (refine callL 6 (l17AnyA) ?_)
 rintro r os ⟨⟨ar,rows,lw,gh,ps,hA,rfl⟩,rfl⟩
 refine ⟨by decide,?_⟩
 repeat' (first | refine sq ?_ | refine stp ?_ | refine blk_o (by decide) ?_ | (apply cb;(focus (simp (disch:=(first | omega | (simp;omega))) only [go_sem,w64];try exact rfl));refine cok ?_) | (refine rgT ?_;intro K hK) | (refine dA ?_;intro K hK) | (with_reducible refine hK _ ?_;clear hK K) | (refine stq ?_;simp (disch:=(first | omega | (simp;omega))) only [go_sem,w64]) | refine as1 ?_ | fail)
 (refine callL 6 (l1BelowA 7) ?_)
 rintro r os ⟨x,⟨x0,_,x1⟩,rfl,rfl⟩
 have x2:=x1 (by omega)
 have w5:IntKind.i64.wrap (x - 1)=x - 1:=w64 (by omega)
 refine ⟨by decide,?_⟩
 repeat' (first | refine sq ?_ | refine stp ?_ | refine blk_o (by decide) ?_ | (apply cb;(focus (simp (disch:=(first | omega | (simp;omega))) only [go_sem,w64,w5];try exact rfl));refine cok ?_) | (refine rgT ?_;intro K hK) | (refine dA ?_;intro K hK) | (with_reducible refine hK _ ?_;clear hK K) | (refine stq ?_;simp (disch:=(first | omega | (simp;omega))) only [go_sem,w64,w5]) | refine as1 ?_ | fail)
 refine end0 0 (.inr rfl) (by simp (disch:=(first | omega | (simp;omega))) only [go_sem,w64];rfl) (r:=.tup [.d (itD ar rows lw gh ps),.d (.int (x - 1))]) (by simp (disch:=(first | omega | (simp;omega))) only [go_sem,w64];exact .refl _) ⟨ar,rows,lw,gh,ps,_,hA,rfl,rfl⟩
end Go.Proofs.Ytfobmfngbfbfdaa
namespace Go.Proofs.Ytfobmfngbfbfdaa
set_option linter.unusedSimpArgs false
set_option linter.unusedVariables false
open Go.RowKit
def cmpP (rows:List (List Int)) (p:List Int) (i:Nat):Int:=cmpR ((rx rows i).take p.length) p
noncomputable def preLo (rows:List (List Int)) (p:List Int):Nat:=firstIx (fun i=>¬ cmpP rows p i<0) rows.length
noncomputable def preHi (rows:List (List Int)) (p:List Int):Nat:=firstIx (fun i=>preLo rows p≤i∧cmpP rows p i ≠ 0) rows.length
noncomputable def preOK (ar:Int) (rows:List (List Int)) (p:List Int):Bool:=validR ar rows && decide ((p.length:Int)≤ar)
noncomputable def rangeLo (ar:Int) (rows:List (List Int)) (p:List Int):Nat:=if preOK ar rows p=true then preLo rows p else 0
noncomputable def rangeHi (ar:Int) (rows:List (List Int)) (p:List Int):Nat:=if preOK ar rows p=true then preHi rows p else 0
end Go.Proofs.Ytfobmfngbfbfdaa
namespace Go.Proofs.Ytfobmfngbfbfdaa
set_option linter.unusedSimpArgs false
set_option linter.unusedVariables false
open Go.RowKit
end Go.Proofs.Ytfobmfngbfbfdaa
namespace Go.Proofs.Ytfobmfngbfbfdaa
set_option linter.unusedSimpArgs false
set_option linter.unusedVariables false
open Go.RowKit
noncomputable def countF (ar:Int) (rows:List (List Int)) (p:List Int):Int:=(rangeHi ar rows p:Int) - rangeLo ar rows p
end Go.Proofs.Ytfobmfngbfbfdaa
namespace Go.Proofs.Ytfobmfngbfbfdaa
set_option linter.unusedSimpArgs false
set_option linter.unusedVariables false
open Go.RowKit
def chTo (f:Nat→Int):Nat→List Int
 | 0=>[]
 | k+1=>if (chTo f k).length=0∨ix (chTo f k) ((chTo f k).length - 1) ≠ f k then chTo f k ++ [f k] else chTo f k
def chAt (rows:List (List Int)) (x q i:Nat):Int:=ix (rx rows (x+i)) q
noncomputable def childF (ar:Int) (rows:List (List Int)) (p:List Int):List Int :=
 if preOK ar rows p=true∧(p.length:Int)<ar then chTo (chAt rows (preLo rows p) p.length) (preHi rows p - preLo rows p) else []
end Go.Proofs.Ytfobmfngbfbfdaa
namespace Go.Proofs.Ytfobmfngbfbfdaa
set_option linter.unusedSimpArgs false
set_option linter.unusedVariables false
open Go.RowKit
section
variable {ar:Int} {rows:List (List Int)} (hv:validR ar rows=true)
include hv
theorem rows_lenT {i:Nat} (hi:i<rows.length):((rx rows i).length:Int)=ar:=by
 simp only [validR,decide_eq_true_eq] at hv
 exact (hv.2.2 i hi).1
theorem rows_lt:∀ {i j:Nat},i<j→j<rows.length→cmpR (rx rows i) (rx rows j)<0:=by
 have h:=hv
 simp only [validR,decide_eq_true_eq] at h
 intro i j
 induction j with
 | zero=>intro h1;omega
 | succ j ih =>
  intro h1 h2
  have h3:=(h.2.2 (j+1) h2).2.2 (by omega)
  simp only [Nat.add_sub_cancel] at h3
  by_cases e:i=j
  ·subst e;exact h3
  ·have h4:=ih (by omega) (by omega)
   have l1:=rows_lenT hv (show i<rows.length by omega)
   have l2:=rows_lenT hv (show j<rows.length by omega)
   have l3:=rows_lenT hv h2
   exact (cmpR_tr (by omega) (by omega) (by omega) (by omega)).2 (.inl h4)
theorem takes_le {i j:Nat} (q:Nat) (h1:i≤j) (h2:j<rows.length):cmpR ((rx rows i).take q) ((rx rows j).take q)≤0:=by
 by_cases e:i=j
 ·subst e;rw [cmpR_self];omega
 ·have l1:=rows_lenT hv (show i<rows.length by omega)
  have l2:=rows_lenT hv h2
  have:=rows_lt hv (show i<j by omega) h2
  exact cmpR_take q (by omega) (by omega)
theorem take_snoc {i:Nat} {q:Nat} (hi:i<rows.length) (hq:(q:Int)<ar):(rx rows i).take (q+1)=(rx rows i).take q ++ [ix (rx rows i) q]:=by
 have:=rows_lenT hv hi
 have hl:q<(rx rows i).length:=by omega
 rw [List.take_succ_eq_append_getElem hl,ix_lt hl]
theorem col_le {p:List Int} (hp:(p.length:Int)<ar) {i j:Nat} (h1:i≤j) (hj:j<rows.length) (e1:(rx rows i).take p.length=p) (e2:(rx rows j).take p.length=p):ix (rx rows i) p.length≤ix (rx rows j) p.length:=by
 have h:=takes_le hv (p.length+1) h1 hj
 rw [take_snoc hv (by omega) hp,take_snoc hv hj hp,e1,e2,cmpR_snoc] at h
 unfold cmpI at h
 split at h
 ·omega
 ·split at h <;> omega
end
section
variable {ar:Int} {rows:List (List Int)} (hv:validR ar rows=true)
include hv
end
end Go.Proofs.Ytfobmfngbfbfdaa
namespace Go.Proofs.Ytfobmfngbfbfdaa
set_option linter.unusedSimpArgs false
set_option linter.unusedVariables false
open Go.RowKit
section
variable {ar:Int} {rows:List (List Int)} {low high pos:List Int}
theorem bnd_share (hv:validR ar rows=true) {n:Nat} (hn:(n:Int)≤ar) (h:∀ j,j<n→LevOK rows low high pos n j):∀ k,k<n→∀ i j,(bnd rows pos k).1≤i→i<(bnd rows pos k).2→(bnd rows pos k).1≤j→j<(bnd rows pos k).2→(rx rows i).take k=(rx rows j).take k
 | 0,_,i,j,_,_,_,_=>by simp
 | k+1,hk,i,j,h1,h2,h3,h4=>by
  have hb:=bnd_ok (n:=n) (k:=k) (by omega) (fun j hj=>h j (by omega))
  have hl:=h k (by omega)
  have hpx:=lev_px hl
  have hlo:(bnd rows pos k).1≤px pos k:=by have:=hl.2.2.1.1;omega
  simp only [bnd] at h1 h2 h3 h4
  have hg:=grpEnd_le rows k (px pos k) (bnd rows pos k).2
  have key:∀ i,px pos k≤i→i<grpEnd rows k (px pos k) (bnd rows pos k).2→ix (rx rows i) k=ix (rx rows (px pos k)) k:=fun i g1 g2=>by
   have:=(firstIx_sq (fun i=>px pos k≤i∧kx rows i k ≠ kx rows (px pos k) k) (bnd rows pos k).2).2 i g2
   exact Classical.byContradiction fun hne=>this ⟨g1,hne⟩
  rw [take_snoc hv (by omega) (by omega),take_snoc hv (by omega) (by omega),bnd_share hv hn h k (by omega) i j (by omega) (by omega) (by omega) (by omega),key i h1 h2,key j h3 h4]
theorem bnd_asc (hv:validR ar rows=true) {n:Nat} (hn:(n:Int)≤ar) (h:∀ j,j<n→LevOK rows low high pos n j) {k i j:Nat} (hk:k<n) (h1:(bnd rows pos k).1≤i) (h2:i≤j) (h3:j<(bnd rows pos k).2):kx rows i k≤kx rows j k:=by
 have hb:=bnd_ok (n:=n) (k:=k) hk (fun j hj=>h j (by omega))
 have hs:=bnd_share hv hn h k hk i j h1 (by omega) (by omega) h3
 have hlen:((rx rows j).take k).length=k:=by
  rw [List.length_take]
  have:=rows_lenT hv (i:=j) (by omega)
  omega
 have:=col_le hv (p:=(rx rows j).take k) (by rw [hlen];omega) h2 (by omega) (by rw [hlen];exact hs) (by rw [hlen])
 rw [hlen] at this
 exact this
theorem bnd_congr {pos pos':List Int}:∀ k,(∀ j,j<k→ix pos' j=ix pos j)→bnd rows pos' k=bnd rows pos k
 | 0,_=>rfl
 | k+1,h=>by
  have e:=bnd_congr k (fun j hj=>h j (by omega))
  have e2:px pos' k=px pos k:=by unfold px;rw [h k (by omega)]
  simp only [bnd,e,e2]
theorem ix_set {l:List Int} {i j:Nat} {x:Int} (h:i<l.length):ix (l.set i x) j=if j=i then x else ix l j:=by
 simp only [ix,List.getD,List.getElem?_set]
 by_cases e:i=j
 ·subst e;simp [h]
 ·rw [if_neg e,if_neg (fun g=>e g.symm)]
theorem valid_move (h:standsF ar rows low high pos=true) {l:Nat} (hl:pos.length=l+1) {m:Nat} (h1:px pos l≤m) (h2:m≤(bnd rows pos l).2) (hg:px pos l<m→m<(bnd rows pos l).2→kx rows (m - 1) l ≠ kx rows m l):validIt ar rows low high (pos.set l (m:Int))=true:=by
 obtain ⟨hv,l',hl',hpx,hhi,hlt,hle,har,hrl⟩:=stands_out h
 obtain rfl:l=l':=by omega
 obtain ⟨v1,v2,v3,v4,v5⟩:=validIt_out hv
 have hlen:(pos.set l (m:Int)).length=pos.length:=List.length_set ..
 have hix:∀ j,ix (pos.set l (m:Int)) j=if j=l then (m:Int) else ix pos j:=fun j=>ix_set (by omega)
 have hbd:∀ k,k≤l→bnd rows (pos.set l (m:Int)) k=bnd rows pos k:=fun k hk=>bnd_congr k fun j hj=>by rw [hix,if_neg (by omega)]
 refine validIt_mk v1 (by rw [hlen];exact v2) (by rw [hlen];exact v3) (by rw [hlen];exact v4) fun k hk=>?_
 rw [hlen] at hk ⊢
 have hL:=v5 k hk
 unfold LevOK at hL ⊢
 rw [hbd k (by omega)]
 by_cases e:k=l
 ·subst e
  have hpm:px (pos.set k (m:Int)) k=m:=by unfold px;rw [hix,if_pos rfl];exact Int.toNat_natCast m
  rw [hix,if_pos rfl,hpm]
  obtain ⟨g1,g2,⟨g3,g4⟩,g5,g6⟩:=hL
  refine ⟨g1,g2,⟨by omega,by omega⟩,fun _=>by omega,fun k1 k2=>?_⟩
  by_cases c:px pos k<m
  ·exact hg c (by omega)
  ·have:m=px pos k:=by omega
   rw [this]
   rw [hpx] at g6
   exact g6 (by omega) (by omega)
 ·have hp:px (pos.set l (m:Int)) k=px pos k:=by unfold px;rw [hix,if_neg e]
  rw [hix,if_neg e,hp]
  exact hL
theorem stands_eq (hv:validIt ar rows low high pos=true) (hp:0<pos.length):standsF ar rows low high pos = !atEndF ar rows low high pos:=by
 unfold standsF
 rw [hv,decide_eq_true hp];simp
theorem seek_law (h:standsF ar rows low high pos=true) (v:Int):validIt ar rows low high (seekP ar rows low high pos v)=true∧standsF ar rows low high (seekP ar rows low high pos v) = !atEndF ar rows low high (seekP ar rows low high pos v) ∧
 (standsF ar rows low high (seekP ar rows low high pos v)=true→v≤curKey ar rows low high (seekP ar rows low high pos v)∧curKey ar rows low high pos≤curKey ar rows low high (seekP ar rows low high pos v))∧seekP ar rows low high (seekP ar rows low high pos v) v=seekP ar rows low high pos v∧(seekP ar rows low high pos v).length=pos.length:=by
 obtain ⟨hv,l,hl,hpx,hhi,hlt,hle,har,hrl⟩:=stands_out h
 obtain ⟨v1,v2,v3,v4,v5⟩:=validIt_out hv
 rw [seekP_yes h hl]
 have hsq:=firstIx_sq (fun i=>px pos l≤i∧v≤kx rows i l) (bnd rows pos l).2
 have hm2:seekEnd rows l v (px pos l) (bnd rows pos l).2≤(bnd rows pos l).2:=firstIx_le _ _
 have hm1:px pos l≤seekEnd rows l v (px pos l) (bnd rows pos l).2:=by
  by_cases c:seekEnd rows l v (px pos l) (bnd rows pos l).2<(bnd rows pos l).2
  ·exact (hsq.1 c).1
  ·omega
 have hge:seekEnd rows l v (px pos l) (bnd rows pos l).2<(bnd rows pos l).2→v≤kx rows (seekEnd rows l v (px pos l) (bnd rows pos l).2) l:=fun c=>(hsq.1 c).2
 have hlo:∀ i,px pos l≤i→i<seekEnd rows l v (px pos l) (bnd rows pos l).2→kx rows i l<v:=fun i g1 g2=>Int.not_le.1 fun g3=>hsq.2 i g2 ⟨g1,g3⟩
 generalize seekEnd rows l v (px pos l) (bnd rows pos l).2=m at *
 have hval:=valid_move h hl hm1 hm2 (fun c1 c2=>by
  have a:=hlo (m - 1) (by omega) (by omega)
  have b:=hge c2
  intro e;rw [e] at a;omega)
 have hlen:(pos.set l (m:Int)).length=pos.length:=List.length_set ..
 have hix:∀ j,ix (pos.set l (m:Int)) j=if j=l then (m:Int) else ix pos j:=fun j=>ix_set (by omega)
 have hbd:bnd rows (pos.set l (m:Int)) l=bnd rows pos l:=bnd_congr l fun j hj=>by rw [hix,if_neg (by omega)]
 have hpm:px (pos.set l (m:Int)) l=m:=by unfold px;rw [hix,if_pos rfl];exact Int.toNat_natCast m
 refine ⟨hval,stands_eq hval (by rw [hlen];omega),fun hs=>?_,?_,hlen⟩
 ·obtain ⟨_,l',hl',_,_,hlt',_⟩:=stands_out hs
  have:l'=l:=by omega
  subst this
  rw [hpm,hbd] at hlt'
  have e1:curKey ar rows low high (pos.set l' (m:Int))=kx rows m l':=by
   unfold curKey
   rw [if_pos hs,hlen,hl,Nat.add_sub_cancel,hpm]
  have e2:curKey ar rows low high pos=kx rows (px pos l') l':=by
   unfold curKey
   rw [if_pos h,hl,Nat.add_sub_cancel]
  rw [e1,e2]
  have hL:=v5 l' (by omega)
  exact ⟨hge hlt',bnd_asc v1 v4 v5 (by omega) (by have:=hL.2.2.1.1;omega) hm1 hlt'⟩
 ·cases hs:standsF ar rows low high (pos.set l (m:Int)) with
  | false=>exact seekP_no hs
  | true =>
   rw [seekP_yes hs (by rw [hlen];exact hl),hpm,hbd,seekEnd_eq hm2 (Nat.le_refl _) (fun i g1 g2=>by omega) hge,List.set_set]
end
end Go.Proofs.Ytfobmfngbfbfdaa
namespace Go.Proofs.Ytfobmfngbfbfdaa
set_option linter.unusedSimpArgs false
set_option linter.unusedVariables false
open Go.ChangeShapes Go.WideShapes Go.ChangeAt Go.RowKit Go.Deep
theorem own:ownKnob Try.prog.godebug=none:=by kernel_rfl
theorem laidOut:laidOutB Try.prog=true:=by kernel_rfl
def ReadsBy {α:Type} (R:Rep α) (t:TypeId):Prop :=
 ∀ {H:Type} (enc:TypeId×Value→H) (W:World) (fuel:Nat) (cs:List Value) (x:DataW H×List MemPlace),DataW.trod enc Try.prog W 0 (fun _=>true) true fuel t cs=some x→∃ y,R false 0 W.heap.size W cs y
theorem cells_at {w:World} {base:Nat} {a:Addr} {k:Nat} {cs:List Value} (h:w.cells? base a k=some cs):cs.length=k∧∀ j,j<k→w.cell? (a.add j)=some (cs.getD j undef):=by
 obtain ⟨_,hlen,hc⟩:=World.cells?_some h
 exact ⟨hlen,fun j hj=>by
  have:=hc j (by omega)
  simpa [List.getD,List.getElem?_eq_getElem (show j<cs.length by omega)] using this⟩
theorem reads_slice {α:Type} {R:Rep α} {t e k:Nat} (ht:Try.prog.underlying t=some (.slice e)) (hk:Try.prog.cellsOf e=k) (hk0:0<k) (hR:ReadsBy R e) :
 ∀ {H:Type} (enc:TypeId×Value→H) (W:World) (fuel:Nat) (cs:List Value) (x:DataW H×List MemPlace),DataW.trod enc Try.prog W 0 (fun _=>true) true fuel t cs=some x →
  ∃ a n c xs,cs=[.slice a n c]∧SlA k R false 0 W.heap.size W a n c xs:=by
 intro H enc W fuel cs x h
 rcases open_slice ht h with ⟨hcs,_⟩ | ⟨a,len,cap,m,n,D,Pl,rfl,_,hl,hm,hmm,_,hx⟩
 ·exact ⟨none,0,0,[],hcs,rfl,Nat.le_refl _,by simp [maxLen],fun h=>by omega,fun _=>rfl⟩
 ·simp only [if_true] at hmm
  subst hmm
  rw [hk] at hx
  have each:∀ i,i<m→∃ y:List Value×α,y.1.length=k∧R false 0 W.heap.size W y.1 y.2∧∀ j,j<k→W.cell? ((a.add (i*k)).add j)=some (y.1.getD j undef):=by
   intro i hi
   obtain ⟨cs',h1,h2⟩:=hx i hi
   obtain ⟨y,hy⟩:=hR enc W n cs' _ h2
   obtain ⟨g1,g2⟩:=cells_at h1
   exact ⟨(cs',y),g1,hy,g2⟩
  refine ⟨some a,len,m,?_⟩
  by_cases hm0:m=0
  ·refine ⟨[],rfl,?_,hl,hm,fun h=>by omega,fun h=>(by cases h)⟩
   simp;omega
  ·haveI:Inhabited α:=⟨(Classical.choose (each 0 (by omega))).2⟩
   obtain ⟨y,hy⟩:=choose_lt each
   obtain ⟨b,off,spot⟩:=a
   have h1:=(hy 0 (by omega)).2.2 0 hk0
   have hspot:spot=none:=by
    cases spot with
    | none=>rfl
    | some s=>simp [Addr.add,World.cell?] at h1;split at h1 <;> simp at h1
   subst hspot
   have hblk:=World.block_lt_of_cell? W _ h1
   refine ⟨(List.range len).map fun i=>(y i).2,rfl,by simp,hl,hm,fun hn=>⟨b,off,rfl,Nat.zero_le _,by simpa [Addr.add] using hblk,fun i hi=>?_⟩,fun h=>(by cases h)⟩
   obtain ⟨g1,g2,g3⟩:=hy i (by omega)
   refine ⟨(y i).1,(y i).2,g1,by simp [hi],g2,fun j hj=>⟨?_,fun h=>(by cases h)⟩⟩
   have:=g3 j hj
   rwa [Addr.add_lit,Addr.add_lit] at this
end Go.Proofs.Ytfobmfngbfbfdaa
namespace Go.Proofs.Ytfobmfngbfbfdaa
set_option linter.unusedSimpArgs false
set_option linter.unusedVariables false
open Go.ChangeShapes Go.WideShapes Go.ChangeAt Go.RowKit Go.Deep
def byteR:Rep Int:=fun _ _ _ _ cs x=>cs=[.int .u8 x]∧0≤x∧x≤255
abbrev BytesA:=SlA 1 byteR
theorem u8_of_wf {x:Int} (h:(Lit.int .u8 x).wf=true):0≤x∧x≤255:=by
 simp [Lit.wf,IntKind.min,IntKind.max,IntKind.bits,IntKind.signed] at h
 omega
theorem cellsU8:Try.prog.cellsOf 5=1:=by kernel_rfl
theorem reads_byte:ReadsBy byteR 5:=by
 intro H enc W fuel cs x h
 obtain ⟨n,rfl,_,hw⟩:=DataW.trod_int Try.underlying5 h
 exact ⟨n,rfl,u8_of_wf hw⟩
theorem reads_bytes {H:Type} (enc:TypeId×Value→H) (W:World) (fuel:Nat) (cs:List Value) (x:DataW H×List MemPlace) (h:DataW.trod enc Try.prog W 0 (fun _=>true) true fuel 22 cs=some x) :
 ∃ a n c xs,cs=[.slice a n c]∧BytesA false 0 W.heap.size W a n c xs:=reads_slice Try.underlying22 cellsU8 (by omega) reads_byte enc W fuel cs x h
theorem bytes_cx {C:Nat→Nat→Prop} {fz:Bool} {lo hi:Nat} {w:World} {a:Option Addr} {n c:Nat} {xs:List Int} (h:BytesA fz lo hi w a n c xs) (hC:∀ b i,lo≤b→b<hi→C b i):CX C w (.sl 1 (xs.map .byte)) [.slice a n c]:=by
 have h1:=h.len
 obtain ⟨_,h2,h3,h4,h5⟩:=h
 have key:0<n→∃ b off,a=some ⟨b,off,none⟩∧lo≤b∧b<hi∧∀ i (hi':i<xs.length),(0≤xs[i]∧xs[i]≤255)∧w.cell? ⟨b,off+i,none⟩=some (.int .u8 xs[i]):=fun hn=>by
  obtain ⟨b,off,ha,hl,hb,hc⟩:=h4 hn
  refine ⟨b,off,ha,hl,hb,fun i hi'=>?_⟩
  obtain ⟨cs,x,g1,g2,⟨rfl,g3⟩,g4⟩:=hc i (by omega)
  rw [List.getElem?_eq_getElem hi'] at g2
  cases g2
  exact ⟨g3,by simpa using (g4 0 (by omega)).1⟩
 refine ⟨a,n,c,xs.map (fun x=>Value.int .u8 x),rfl,by simpa using h1,CXk.singles.2 ⟨by simp,fun i x hx=>?_⟩,by simp [h1],h2,h3,h5,?_,fun hn=>?_⟩
 ·rw [List.getElem?_map] at hx
  cases e:xs[i]? with
  | none=>rw [e] at hx;cases hx
  | some y =>
   rw [e] at hx;cases hx
   have hi':=(List.getElem?_eq_some_iff.1 e).1
   obtain ⟨b,off,_,_,_,hk⟩:=key (by omega)
   have hy:xs[i]=y:=(List.getElem?_eq_some_iff.1 e).2
   have:=(hk i hi').1
   rw [hy] at this
   exact ⟨.int .u8 y,by rw [List.getElem?_map,e];rfl,rfl,this⟩
 ·intro u hu
  obtain ⟨y,_,rfl⟩:=List.mem_map.1 hu
  rfl
 ·obtain ⟨b,off,ha,hl,hb,hk⟩:=key hn
  refine ⟨b,off,ha,fun i u hu=>⟨hC _ _ hl hb,?_⟩⟩
  rw [List.getElem?_map] at hu
  cases e:xs[i]? with
  | none=>rw [e] at hu;cases hu
  | some y =>
   rw [e] at hu;cases hu
   obtain ⟨hi',hy⟩:=List.getElem?_eq_some_iff.1 e
   have:=(hk i hi').2
   rw [hy] at this
   exact this
end Go.Proofs.Ytfobmfngbfbfdaa
