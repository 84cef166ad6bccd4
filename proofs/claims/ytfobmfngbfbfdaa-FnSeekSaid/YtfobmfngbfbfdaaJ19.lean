/- Lemmas for the proof of FnIteration, part 19 of 22: no condition of their own. -/
import Derived.Test.YtfobmfngbfbfdaaJ17
import Derived.Test.YtfobmfngbfbfdaaJ1
import Derived.Test.YtfobmfngbfbfdaaJ15
import Derived.Test.YtfobmfngbfbfdaaJ16
import Derived.Test.YtfobmfngbfbfdaaJ18
namespace Go.Proofs.Ytfobmfngbfbfdaa
set_option linter.unusedSimpArgs false
set_option linter.unusedVariables false
attribute [local go_sem ↓] reduceIte
attribute [local go_sem] Nat.reduceEqDiff Nat.reduceLT Nat.reduceAdd Nat.reduceLeDiff Nat.reduceMul Nat.reduceBEq Nat.reduceSub reduceCtorEq Int.reduceLE Int.reduceNeg Int.reduceLT
open Go.RowKit
theorem specNewRelA (ar:Int) (rows:List (List Int)) (hl:rows.length≤1048576) (har:ar≤1048576):AFn 69 [.d (.int ar),.d (rowsD rows)] [] (fun r os=>r=.tup [.d (relD (nrAr ar rows) (nrRows ar rows)),.d (.bool (nrOK ar rows))]∧os=[]):=by
 refine afn_of (rv:=[.cell 4 49,.tmp 5]) tyT_ok Try.func69 rfl (by decide +kernel) Try.ntmps69 rfl (by simp) ?_
 repeat' (first | refine sq ?_ | refine stp ?_ | refine blk_o (by decide) ?_ | (apply cb;(focus (simp (disch:=(first | omega | (simp;omega))) only [go_sem,w64];try exact rfl));refine cok ?_) | (refine rgT ?_;intro K hK) | (refine dA ?_;intro K hK) | (with_reducible refine hK _ ?_;clear hK K) | (refine stq ?_;simp (disch:=(first | omega | (simp;omega))) only [go_sem,w64]) | refine as1 ?_ | fail)
 refine awp_loopw (fun m s=>∃ k,m=rows.length - k∧k≤rows.length∧(∀ i,i<k→((rx rows i).length:Int)=ar∧valB (rx rows i)=true)∧s=mkS [(0,.d (.int ar)),(1,.d (rowsD rows)),(4,.ptr 4 0),(6,.d (.int (k:Nat)))] [(4,[.d (.int 0),.nil])]) ?_ ?_
 ·refine ⟨_,_,?_,0,rfl,Nat.zero_le _,fun i hi=>absurd hi (Nat.not_lt_zero _),rfl⟩
  exact sleA
 ·rintro m s ⟨k,rfl,hk,hin,rfl⟩
  repeat' (first | refine sq ?_ | refine stp ?_ | refine blk_o (by decide) ?_ | (apply cb;(focus (simp (disch:=(first | omega | (simp;omega))) only [go_sem,w64];try exact rfl));refine cok ?_) | (refine rgT ?_;intro K hK) | (refine dA ?_;intro K hK) | (with_reducible refine hK _ ?_;clear hK K) | (refine stq ?_;simp (disch:=(first | omega | (simp;omega))) only [go_sem,w64]) | refine as1 ?_ | fail)
  refine awp_if (p:=(k:Int)<rows.length) (by simp (disch:=(first | omega | (simp;omega))) only [go_sem,w64]) ?_ ?_ <;> intro hc
  ·have hk2:k<rows.length:=by omega
   have g0:(rows.map intsD).getD k (.bool false)=intsD (rx rows k):=getDR hk2
   by_cases h1:((rx rows k).length:Int)=ar
   ·have h1t:((rx rows k).length:Int)=ar↔True:=iff_of_true h1 trivial
    repeat' (first | refine sq ?_ | refine stp ?_ | refine blk_o (by decide) ?_ | (apply cb;(focus (simp (disch:=(first | omega | (simp;omega))) only [go_sem,w64,g0,h1t];try exact rfl));refine cok ?_) | (refine rgT ?_;intro K hK) | (refine dA ?_;intro K hK) | (with_reducible refine hK _ ?_;clear hK K) | (refine stq ?_;simp (disch:=(first | omega | (simp;omega))) only [go_sem,w64,g0,h1t]) | refine as1 ?_ | fail)
    (first | refine callA (specValsA (rx rows k)) ?_ | refine callD (specValsA (rx rows k)) ?_ | refine callE (specValsA (rx rows k)) ?_ | refine callF (specValsA (rx rows k)) ?_ ?_)
    cases h2:valB (rx rows k) with
    | true =>
     repeat' (first | refine sq ?_ | refine stp ?_ | refine blk_o (by decide) ?_ | (apply cb;(focus (simp (disch:=(first | omega | (simp;omega))) only [go_sem,w64,g0,h1t];try exact rfl));refine cok ?_) | (refine rgT ?_;intro K hK) | (refine dA ?_;intro K hK) | (with_reducible refine hK _ ?_;clear hK K) | (refine stq ?_;simp (disch:=(first | omega | (simp;omega))) only [go_sem,w64,g0,h1t]) | refine as1 ?_ | fail)
     refine ⟨rows.length - (k+1),_,by omega,?_,k+1,rfl,by omega,fun i hi=>?_,rfl⟩
     ·exact sleA
     ·by_cases e:i=k
      ·subst e;exact ⟨h1,h2⟩
      ·exact hin i (by omega)
    | false =>
     repeat' (first | refine sq ?_ | refine stp ?_ | refine blk_o (by decide) ?_ | (apply cb;(focus (simp (disch:=(first | omega | (simp;omega))) only [go_sem,w64,g0,h1t];try exact rfl));refine cok ?_) | (refine rgT ?_;intro K hK) | (refine dA ?_;intro K hK) | (with_reducible refine hK _ ?_;clear hK K) | (refine stq ?_;simp (disch:=(first | omega | (simp;omega))) only [go_sem,w64,g0,h1t]) | refine as1 ?_ | fail)
     have hno:=nr_out (ar:=ar) hk2 (fun h=>by rw [h2] at h;cases h.2)
     obtain ⟨e1,e2⟩:=nr_no hno
     rw [e1,e2,hno]
     (refine endA (r:=.tup [.d (.agg [.int 0,.sl 1 []]),.d (.bool false)]) ?_)
     exact ⟨rfl,rfl⟩
   ·have h1t:((rx rows k).length:Int)=ar↔False:=iff_of_false h1 id
    repeat' (first | refine sq ?_ | refine stp ?_ | refine blk_o (by decide) ?_ | (apply cb;(focus (simp (disch:=(first | omega | (simp;omega))) only [go_sem,w64,g0,h1t];try exact rfl));refine cok ?_) | (refine rgT ?_;intro K hK) | (refine dA ?_;intro K hK) | (with_reducible refine hK _ ?_;clear hK K) | (refine stq ?_;simp (disch:=(first | omega | (simp;omega))) only [go_sem,w64,g0,h1t]) | refine as1 ?_ | fail)
    have hno:=nr_out (ar:=ar) hk2 (fun h=>h1 h.1)
    obtain ⟨e1,e2⟩:=nr_no hno
    rw [e1,e2,hno]
    (refine endA (r:=.tup [.d (.agg [.int 0,.sl 1 []]),.d (.bool false)]) ?_)
    exact ⟨rfl,rfl⟩
  ·obtain rfl:k=rows.length:=by omega
   have hs:SameL ar.toNat rows:=rowsIn.same hin
   have hsl:=srt_len rows
   repeat' (first | refine sq ?_ | refine stp ?_ | refine blk_o (by decide) ?_ | (apply cb;(focus (simp (disch:=(first | omega | (simp;omega))) only [go_sem,w64];try exact rfl));refine cok ?_) | (refine rgT ?_;intro K hK) | (refine dA ?_;intro K hK) | (with_reducible refine hK _ ?_;clear hK K) | (refine stq ?_;simp (disch:=(first | omega | (simp;omega))) only [go_sem,w64]) | refine as1 ?_ | fail)
   (first | refine callA (l5SortA ar.toNat (by omega) rows.length rows (Nat.le_refl _) hl hs) ?_ | refine callD (l5SortA ar.toNat (by omega) rows.length rows (Nat.le_refl _) hl hs) ?_ | refine callE (l5SortA ar.toNat (by omega) rows.length rows (Nat.le_refl _) hl hs) ?_ | refine callF (l5SortA ar.toNat (by omega) rows.length rows (Nat.le_refl _) hl hs) ?_ ?_)
   repeat' (first | refine sq ?_ | refine stp ?_ | refine blk_o (by decide) ?_ | (apply cb;(focus (simp (disch:=(first | omega | (simp;omega))) only [go_sem,w64];try exact rfl));refine cok ?_) | (refine rgT ?_;intro K hK) | (refine dA ?_;intro K hK) | (with_reducible refine hK _ ?_;clear hK K) | (refine stq ?_;simp (disch:=(first | omega | (simp;omega))) only [go_sem,w64]) | refine as1 ?_ | fail)
   (first | refine callA (l5CopyA ar (srt rows) (by omega) (fun x hx=>by have:=hs.srt x hx;omega)) ?_ | refine callD (l5CopyA ar (srt rows) (by omega) (fun x hx=>by have:=hs.srt x hx;omega)) ?_ | refine callE (l5CopyA ar (srt rows) (by omega) (fun x hx=>by have:=hs.srt x hx;omega)) ?_ | refine callF (l5CopyA ar (srt rows) (by omega) (fun x hx=>by have:=hs.srt x hx;omega)) ?_ ?_)
   repeat' (first | refine sq ?_ | refine stp ?_ | refine blk_o (by decide) ?_ | (apply cb;(focus (simp (disch:=(first | omega | (simp;omega))) only [go_sem,w64];try exact rfl));refine cok ?_) | (refine rgT ?_;intro K hK) | (refine dA ?_;intro K hK) | (with_reducible refine hK _ ?_;clear hK K) | (refine stq ?_;simp (disch:=(first | omega | (simp;omega))) only [go_sem,w64]) | refine as1 ?_ | fail)
   (first | refine callA (specValidRelA ar (srt rows)) ?_ | refine callD (specValidRelA ar (srt rows)) ?_ | refine callE (specValidRelA ar (srt rows)) ?_ | refine callF (specValidRelA ar (srt rows)) ?_ ?_)
   cases h3:validR ar (srt rows) with
   | false =>
    repeat' (first | refine sq ?_ | refine stp ?_ | refine blk_o (by decide) ?_ | (apply cb;(focus (simp (disch:=(first | omega | (simp;omega))) only [go_sem,w64];try exact rfl));refine cok ?_) | (refine rgT ?_;intro K hK) | (refine dA ?_;intro K hK) | (with_reducible refine hK _ ?_;clear hK K) | (refine stq ?_;simp (disch:=(first | omega | (simp;omega))) only [go_sem,w64]) | refine as1 ?_ | fail)
    have hno:=nr_val h3
    obtain ⟨e1,e2⟩:=nr_no hno
    rw [e1,e2,hno]
    (refine endA (r:=.tup [.d (.agg [.int 0,.sl 1 []]),.d (.bool false)]) ?_)
    exact ⟨rfl,rfl⟩
   | true =>
    repeat' (first | refine sq ?_ | refine stp ?_ | refine blk_o (by decide) ?_ | (apply cb;(focus (simp (disch:=(first | omega | (simp;omega))) only [go_sem,w64];try exact rfl));refine cok ?_) | (refine rgT ?_;intro K hK) | (refine dA ?_;intro K hK) | (with_reducible refine hK _ ?_;clear hK K) | (refine stq ?_;simp (disch:=(first | omega | (simp;omega))) only [go_sem,w64]) | refine as1 ?_ | fail)
    have hno:=nr_in hin h3
    obtain ⟨e1,e2⟩:=nr_yes hno
    rw [e1,e2,hno]
    (refine endA (r:=.tup [.d (relD ar (srt rows)),.d (.bool true)]) ?_)
    exact ⟨rfl,rfl⟩
theorem specInA (x lo hi:Int):AFn 39 [.d (.int x),.d (.int lo),.d (.int hi)] [] (fun r os=>r=.d (.bool (decide (lo≤x∧x≤hi)))∧os=[]):=by
 refine gives_afn (fnOK (by kernel_rfl)) (fun _ _=>cvBool.2 rfl) ?_
 rintro w G _ ⟨v1,_,rfl,h1,v2,_,rfl,h2,v3,_,rfl,h3,rfl⟩ hC
 obtain ⟨rfl,_⟩:=cvInt.1 h1
 obtain ⟨rfl,_⟩:=cvInt.1 h2
 obtain ⟨rfl,_⟩:=cvInt.1 h3
 exact specIn x lo hi w
theorem pr_ar {ar:Int} {rows:List (List Int)} {cols:List Int} (h:¬ (0≤ar∧ar≤5)):prOK ar rows cols=false:=by simp [prOK,validR_ar h]
theorem pr_fit {ar:Int} {rows:List (List Int)} {cols:List Int} {i:Nat} (hi:i<cols.length) (h:¬ (0≤ix cols i∧ix cols i≤ar - 1)):prOK ar rows cols=false:=by simp [prOK,fit_out hi h]
set_option maxHeartbeats 1000000 in
theorem specProjectA (ar:Int) (rows:List (List Int)) (cols:List Int) (hcl:cols.length≤1048576):AFn 71 [.d (relD ar rows),.d (intsD cols)] [] (fun r os=>r=.tup [.d (relD (prAr ar rows cols) (prRows ar rows cols)),.d (.bool (prOK ar rows cols))]∧os=[]):=by
 refine afn_of (rv:=[.cell 4 49,.tmp 5]) tyT_ok Try.func71 rfl (by decide +kernel) Try.ntmps71 rfl (by simp) ?_
 repeat' (first | refine sq ?_ | refine stp ?_ | refine blk_o (by decide) ?_ | (apply cb;(focus (simp (disch:=(first | omega | (simp;omega))) only [go_sem,w64,intsD];try exact rfl));refine cok ?_) | (refine rgT ?_;intro K hK) | (refine dA ?_;intro K hK) | (with_reducible refine hK _ ?_;clear hK K) | (refine stq ?_;simp (disch:=(first | omega | (simp;omega))) only [go_sem,w64,intsD]) | refine as1 ?_ | fail)
 obtain ⟨W,hW⟩:∃ W,W=IntKind.i64.wrap (ar - 1):=⟨_,rfl⟩
 have hWar:0≤ar∧ar≤5→W=ar - 1:=fun h=>by rw [hW,w64 (by omega)]
 refine awp_loopw (fun m s=>∃ k,m=cols.length - k∧k≤cols.length∧(∀ i,i<k→0≤ix cols i∧ix cols i≤W)∧s=mkS [(1,.d (intsD cols)),(2,.ptr 2 0),(4,.ptr 4 0),(6,.d (.int (k:Nat)))] [(2,[.d (.int ar),.d (rowsD rows)]),(4,[.d (.int 0),.nil])]) ?_ ?_
 ·refine ⟨_,_,?_,0,rfl,Nat.zero_le _,fun i hi=>absurd hi (Nat.not_lt_zero _),rfl⟩
  exact sleA
 ·rintro m s ⟨k,rfl,hk,hin,rfl⟩
  repeat' (first | refine sq ?_ | refine stp ?_ | refine blk_o (by decide) ?_ | (apply cb;(focus (simp (disch:=(first | omega | (simp;omega))) only [go_sem,w64,intsD];try exact rfl));refine cok ?_) | (refine rgT ?_;intro K hK) | (refine dA ?_;intro K hK) | (with_reducible refine hK _ ?_;clear hK K) | (refine stq ?_;simp (disch:=(first | omega | (simp;omega))) only [go_sem,w64,intsD]) | refine as1 ?_ | fail)
  refine awp_if (p:=(k:Int)<cols.length) (by simp (disch:=(first | omega | (simp;omega))) only [go_sem,w64]) ?_ ?_ <;> intro hc
  ·have hk2:k<cols.length:=by omega
   repeat' (first | refine sq ?_ | refine stp ?_ | refine blk_o (by decide) ?_ | (apply cb;(focus (simp (disch:=(first | omega | (simp;omega))) only [go_sem,w64,intsD,← hW];try exact rfl));refine cok ?_) | (refine rgT ?_;intro K hK) | (refine dA ?_;intro K hK) | (with_reducible refine hK _ ?_;clear hK K) | (refine stq ?_;simp (disch:=(first | omega | (simp;omega))) only [go_sem,w64,intsD,← hW]) | refine as1 ?_ | fail)
   (first | refine callA (specInA (ix cols k) 0 W) ?_ | refine callD (specInA (ix cols k) 0 W) ?_ | refine callE (specInA (ix cols k) 0 W) ?_ | refine callF (specInA (ix cols k) 0 W) ?_ ?_)
   by_cases h2:0≤ix cols k∧ix cols k≤W
   ·have e:decide (0≤ix cols k∧ix cols k≤W)=true:=decide_eq_true h2
    rw [e]
    repeat' (first | refine sq ?_ | refine stp ?_ | refine blk_o (by decide) ?_ | (apply cb;(focus (simp (disch:=(first | omega | (simp;omega))) only [go_sem,w64,intsD,← hW];try exact rfl));refine cok ?_) | (refine rgT ?_;intro K hK) | (refine dA ?_;intro K hK) | (with_reducible refine hK _ ?_;clear hK K) | (refine stq ?_;simp (disch:=(first | omega | (simp;omega))) only [go_sem,w64,intsD,← hW]) | refine as1 ?_ | fail)
    refine ⟨cols.length - (k+1),_,by omega,?_,k+1,rfl,by omega,fun i hi=>?_,rfl⟩
    ·exact sleA
    ·by_cases e:i=k
     ·subst e;exact h2
     ·exact hin i (by omega)
   ·have e:decide (0≤ix cols k∧ix cols k≤W)=false:=decide_eq_false h2
    rw [e]
    repeat' (first | refine sq ?_ | refine stp ?_ | refine blk_o (by decide) ?_ | (apply cb;(focus (simp (disch:=(first | omega | (simp;omega))) only [go_sem,w64,intsD,← hW];try exact rfl));refine cok ?_) | (refine rgT ?_;intro K hK) | (refine dA ?_;intro K hK) | (with_reducible refine hK _ ?_;clear hK K) | (refine stq ?_;simp (disch:=(first | omega | (simp;omega))) only [go_sem,w64,intsD,← hW]) | refine as1 ?_ | fail)
    have hno:prOK ar rows cols=false:=by
     by_cases ha:0≤ar∧ar≤5
     ·exact pr_fit hk2 (fun h=>h2 (by rw [hWar ha];exact h))
     ·exact pr_ar ha
    obtain ⟨e1,e2⟩:=pr_no hno
    rw [e1,e2,hno]
    (refine endA (r:=.tup [.d (.agg [.int 0,.sl 1 []]),.d (.bool false)]) ?_)
    exact ⟨rfl,rfl⟩
  ·obtain rfl:k=cols.length:=by omega
   repeat' (first | refine sq ?_ | refine stp ?_ | refine blk_o (by decide) ?_ | (apply cb;(focus (simp (disch:=(first | omega | (simp;omega))) only [go_sem,w64,intsD];try exact rfl));refine cok ?_) | (refine rgT ?_;intro K hK) | (refine dA ?_;intro K hK) | (with_reducible refine hK _ ?_;clear hK K) | (refine stq ?_;simp (disch:=(first | omega | (simp;omega))) only [go_sem,w64,intsD]) | refine as1 ?_ | fail)
   (first | refine callA (specValidRelA ar rows) ?_ | refine callD (specValidRelA ar rows) ?_ | refine callE (specValidRelA ar rows) ?_ | refine callF (specValidRelA ar rows) ?_ ?_)
   cases h1:validR ar rows with
   | false =>
    have hno:prOK ar rows cols=false:=by simp [prOK,h1]
    obtain ⟨e1,e2⟩:=pr_no hno
    repeat' (first | refine sq ?_ | refine stp ?_ | refine blk_o (by decide) ?_ | (apply cb;(focus (simp (disch:=(first | omega | (simp;omega))) only [go_sem,w64,intsD];try exact rfl));refine cok ?_) | (refine rgT ?_;intro K hK) | (refine dA ?_;intro K hK) | (with_reducible refine hK _ ?_;clear hK K) | (refine stq ?_;simp (disch:=(first | omega | (simp;omega))) only [go_sem,w64,intsD]) | refine as1 ?_ | fail)
    rw [e1,e2,hno]
    (refine endA (r:=.tup [.d (.agg [.int 0,.sl 1 []]),.d (.bool false)]) ?_)
    exact ⟨rfl,rfl⟩
   | true =>
    obtain ⟨⟨ha0,ha1⟩,hrl,_⟩:=validR_out h1
    have hWe:=hWar ⟨ha0,ha1⟩
    by_cases h5:cols.length≤5
    ·have h5t:(5:Int)<((cols.length:Nat):Int)↔False:=iff_of_false (by omega) id
     have h2:colsFit ar cols=true:=fit_in h5 (fun i hi=>by have:=hin i hi;rw [hWe] at this;exact this)
     obtain ⟨hc5,hci⟩:=fit_yes h2
     obtain ⟨q1,q2,q3⟩:=pr_nr h1 h2
     repeat' (first | refine sq ?_ | refine stp ?_ | refine blk_o (by decide) ?_ | (apply cb;(focus (simp (disch:=(first | omega | (simp;omega))) only [go_sem,w64,intsD,h5t];try exact rfl));refine cok ?_) | (refine rgT ?_;intro K hK) | (refine dA ?_;intro K hK) | (with_reducible refine hK _ ?_;clear hK K) | (refine stq ?_;simp (disch:=(first | omega | (simp;omega))) only [go_sem,w64,intsD,h5t]) | refine as1 ?_ | fail)
     refine awp_loopw (fun m s=>∃ k,m=rows.length - k∧k≤rows.length∧s=mkS [(1,.d (intsD cols)),(2,.ptr 2 0),(4,.ptr 4 0),(7,.buf 36 27 1 (((rows.take k).map (pickL cols)).map intsD)),(8,.d (.int (k:Nat)))] [(2,[.d (.int ar),.d (rowsD rows)]),(4,[.d (.int 0),.nil])]) ?_ ?_
     ·refine ⟨_,_,?_,0,rfl,Nat.zero_le _,rfl⟩
      exact sleA
     ·rintro m s ⟨k,rfl,hk,rfl⟩
      repeat' (first | refine sq ?_ | refine stp ?_ | refine blk_o (by decide) ?_ | (apply cb;(focus (simp (disch:=(first | omega | (simp;omega))) only [go_sem,w64,rowsD];try exact rfl));refine cok ?_) | (refine rgT ?_;intro K hK) | (refine dA ?_;intro K hK) | (with_reducible refine hK _ ?_;clear hK K) | (refine stq ?_;simp (disch:=(first | omega | (simp;omega))) only [go_sem,w64,rowsD]) | refine as1 ?_ | fail)
      refine awp_if (p:=(k:Int)<rows.length) (by simp (disch:=(first | omega | (simp;omega))) only [go_sem,w64]) ?_ ?_ <;> intro hc
      ·have hk2:k<rows.length:=by omega
       have hb:(((rows.take k).map (pickL cols)).map intsD).length≤16777215:=by simp;omega
       have g0:(rows.map intsD).getD k (.bool false)=intsD (rx rows k):=getDR hk2
       have hrk:=rows_len h1 hk2
       repeat' (first | refine sq ?_ | refine stp ?_ | refine blk_o (by decide) ?_ | (apply cb;(focus (simp (disch:=(first | omega | (simp;omega))) only [go_sem,w64,rowsD,g0];try exact rfl));refine cok ?_) | (refine rgT ?_;intro K hK) | (refine dA ?_;intro K hK) | (with_reducible refine hK _ ?_;clear hK K) | (refine stq ?_;simp (disch:=(first | omega | (simp;omega))) only [go_sem,w64,rowsD,g0]) | refine as1 ?_ | fail)
       (first | refine callA (l5ColsA (rx rows k) cols (by omega) (fun i hi=>by have:=hci i hi;omega)) ?_ | refine callD (l5ColsA (rx rows k) cols (by omega) (fun i hi=>by have:=hci i hi;omega)) ?_ | refine callE (l5ColsA (rx rows k) cols (by omega) (fun i hi=>by have:=hci i hi;omega)) ?_ | refine callF (l5ColsA (rx rows k) cols (by omega) (fun i hi=>by have:=hci i hi;omega)) ?_ ?_)
       repeat' (first | refine sq ?_ | refine stp ?_ | refine blk_o (by decide) ?_ | (apply cb;(focus (simp (disch:=(first | omega | (simp;omega))) only [go_sem,w64,rowsD,g0];try exact rfl));refine cok ?_) | (refine rgT ?_;intro K hK) | (refine dA ?_;intro K hK) | (with_reducible refine hK _ ?_;clear hK K) | (refine stq ?_;simp (disch:=(first | omega | (simp;omega))) only [go_sem,w64,rowsD,g0]) | refine as1 ?_ | fail)
       refine ⟨rows.length - (k+1),_,by omega,?_,k+1,rfl,by omega,rfl⟩
       rw [rx_take hk2,map_snoc,map_snoc]
       exact sleA
      ·obtain rfl:k=rows.length:=by omega
       rw [List.take_length]
       repeat' (first | refine sq ?_ | refine stp ?_ | refine blk_o (by decide) ?_ | (apply cb;(focus (simp (disch:=(first | omega | (simp;omega))) only [go_sem,w64];try exact rfl));refine cok ?_) | (refine rgT ?_;intro K hK) | (refine dA ?_;intro K hK) | (with_reducible refine hK _ ?_;clear hK K) | (refine stq ?_;simp (disch:=(first | omega | (simp;omega))) only [go_sem,w64]) | refine as1 ?_ | fail)
       (first | refine callA (specNewRelA cols.length (rows.map (pickL cols)) (by simp;omega) (by omega)) ?_ | refine callD (specNewRelA cols.length (rows.map (pickL cols)) (by simp;omega) (by omega)) ?_ | refine callE (specNewRelA cols.length (rows.map (pickL cols)) (by simp;omega) (by omega)) ?_ | refine callF (specNewRelA cols.length (rows.map (pickL cols)) (by simp;omega) (by omega)) ?_ ?_)
       repeat' (first | refine sq ?_ | refine stp ?_ | refine blk_o (by decide) ?_ | (apply cb;(focus (simp (disch:=(first | omega | (simp;omega))) only [go_sem,w64];try exact rfl));refine cok ?_) | (refine rgT ?_;intro K hK) | (refine dA ?_;intro K hK) | (with_reducible refine hK _ ?_;clear hK K) | (refine stq ?_;simp (disch:=(first | omega | (simp;omega))) only [go_sem,w64]) | refine as1 ?_ | fail)
       rw [q1,q2,q3]
       (refine endA (r:=.tup [.d (relD (nrAr cols.length (rows.map (pickL cols))) (nrRows cols.length (rows.map (pickL cols)))),.d (.bool (nrOK cols.length (rows.map (pickL cols))))]) ?_)
       exact ⟨rfl,rfl⟩
    ·have h5t:(5:Int)<((cols.length:Nat):Int)↔True:=iff_of_true (by omega) trivial
     have hno:prOK ar rows cols=false:=by simp [prOK,fit_len h5]
     obtain ⟨e1,e2⟩:=pr_no hno
     repeat' (first | refine sq ?_ | refine stp ?_ | refine blk_o (by decide) ?_ | (apply cb;(focus (simp (disch:=(first | omega | (simp;omega))) only [go_sem,w64,intsD,h5t];try exact rfl));refine cok ?_) | (refine rgT ?_;intro K hK) | (refine dA ?_;intro K hK) | (with_reducible refine hK _ ?_;clear hK K) | (refine stq ?_;simp (disch:=(first | omega | (simp;omega))) only [go_sem,w64,intsD,h5t]) | refine as1 ?_ | fail)
     rw [e1,e2,hno]
     (refine endA (r:=.tup [.d (.agg [.int 0,.sl 1 []]),.d (.bool false)]) ?_)
     exact ⟨rfl,rfl⟩
theorem specBuildTrieA (ar:Int) (rows:List (List Int)) (cols:List Int) (hcl:cols.length≤1048576):AFn 63 [.d (relD ar rows),.d (intsD cols)] [] (fun r os=>r=.tup [.d (relD (btAr ar rows cols) (btRows ar rows cols)),.d (.bool (btOK ar rows cols))]∧os=[]):=by
 refine afn_of (rv:=[.cell 4 26,.tmp 5]) tyT_ok Try.func63 rfl (by decide +kernel) Try.ntmps63 rfl (by simp) ?_
 repeat' (first | refine sq ?_ | refine stp ?_ | refine blk_o (by decide) ?_ | (apply cb;(focus (simp (disch:=(first | omega | (simp;omega))) only [go_sem,w64,intsD];try exact rfl));refine cok ?_) | (refine rgT ?_;intro K hK) | (refine dA ?_;intro K hK) | (with_reducible refine hK _ ?_;clear hK K) | (refine stq ?_;simp (disch:=(first | omega | (simp;omega))) only [go_sem,w64,intsD]) | refine as1 ?_ | fail)
 (first | refine callA (specPermA cols) ?_ | refine callD (specPermA cols) ?_ | refine callE (specPermA cols) ?_ | refine callF (specPermA cols) ?_ ?_)
 cases h1:permB cols with
 | false =>
  have hno:btOK ar rows cols=false:=by simp [btOK,h1]
  obtain ⟨e1,e2⟩:=bt_no hno
  repeat' (first | refine sq ?_ | refine stp ?_ | refine blk_o (by decide) ?_ | (apply cb;(focus (simp (disch:=(first | omega | (simp;omega))) only [go_sem,w64,intsD];try exact rfl));refine cok ?_) | (refine rgT ?_;intro K hK) | (refine dA ?_;intro K hK) | (with_reducible refine hK _ ?_;clear hK K) | (refine stq ?_;simp (disch:=(first | omega | (simp;omega))) only [go_sem,w64,intsD]) | refine as1 ?_ | fail)
  rw [e1,e2,hno]
  (refine endA (r:=.tup [.d (.agg [.int 0,.sl 1 []]),.d (.bool false)]) ?_)
  exact ⟨rfl,rfl⟩
 | true =>
  by_cases h2:((cols.length:Nat):Int)=ar
  ·have h2t:((cols.length:Nat):Int)=ar↔True:=iff_of_true h2 trivial
   repeat' (first | refine sq ?_ | refine stp ?_ | refine blk_o (by decide) ?_ | (apply cb;(focus (simp (disch:=(first | omega | (simp;omega))) only [go_sem,w64,intsD,h2t];try exact rfl));refine cok ?_) | (refine rgT ?_;intro K hK) | (refine dA ?_;intro K hK) | (with_reducible refine hK _ ?_;clear hK K) | (refine stq ?_;simp (disch:=(first | omega | (simp;omega))) only [go_sem,w64,intsD,h2t]) | refine as1 ?_ | fail)
   (first | refine callA (specProjectA ar rows cols hcl) ?_ | refine callD (specProjectA ar rows cols hcl) ?_ | refine callE (specProjectA ar rows cols hcl) ?_ | refine callF (specProjectA ar rows cols hcl) ?_ ?_)
   cases h3:prOK ar rows cols with
   | false =>
    have hno:btOK ar rows cols=false:=by simp [btOK,h3]
    obtain ⟨e1,e2⟩:=bt_no hno
    repeat' (first | refine sq ?_ | refine stp ?_ | refine blk_o (by decide) ?_ | (apply cb;(focus (simp (disch:=(first | omega | (simp;omega))) only [go_sem,w64,intsD];try exact rfl));refine cok ?_) | (refine rgT ?_;intro K hK) | (refine dA ?_;intro K hK) | (with_reducible refine hK _ ?_;clear hK K) | (refine stq ?_;simp (disch:=(first | omega | (simp;omega))) only [go_sem,w64,intsD]) | refine as1 ?_ | fail)
    rw [e1,e2,hno]
    (refine endA (r:=.tup [.d (.agg [.int 0,.sl 1 []]),.d (.bool false)]) ?_)
    exact ⟨rfl,rfl⟩
   | true =>
    have hno:btOK ar rows cols=true:=by simp [btOK,h1,h2,h3]
    obtain ⟨e1,e2⟩:=bt_yes hno
    repeat' (first | refine sq ?_ | refine stp ?_ | refine blk_o (by decide) ?_ | (apply cb;(focus (simp (disch:=(first | omega | (simp;omega))) only [go_sem,w64,intsD];try exact rfl));refine cok ?_) | (refine rgT ?_;intro K hK) | (refine dA ?_;intro K hK) | (with_reducible refine hK _ ?_;clear hK K) | (refine stq ?_;simp (disch:=(first | omega | (simp;omega))) only [go_sem,w64,intsD]) | refine as1 ?_ | fail)
    rw [e1,e2,hno]
    (refine endA (r:=.tup [.d (relD (prAr ar rows cols) (prRows ar rows cols)),.d (.bool true)]) ?_)
    exact ⟨rfl,rfl⟩
  ·have h2t:((cols.length:Nat):Int)=ar↔False:=iff_of_false h2 id
   have hno:btOK ar rows cols=false:=by simp [btOK,h2]
   obtain ⟨e1,e2⟩:=bt_no hno
   repeat' (first | refine sq ?_ | refine stp ?_ | refine blk_o (by decide) ?_ | (apply cb;(focus (simp (disch:=(first | omega | (simp;omega))) only [go_sem,w64,intsD,h2t];try exact rfl));refine cok ?_) | (refine rgT ?_;intro K hK) | (refine dA ?_;intro K hK) | (with_reducible refine hK _ ?_;clear hK K) | (refine stq ?_;simp (disch:=(first | omega | (simp;omega))) only [go_sem,w64,intsD,h2t]) | refine as1 ?_ | fail)
   rw [e1,e2,hno]
   (refine endA (r:=.tup [.d (.agg [.int 0,.sl 1 []]),.d (.bool false)]) ?_)
   exact ⟨rfl,rfl⟩
end Go.Proofs.Ytfobmfngbfbfdaa
namespace Go.Proofs.Ytfobmfngbfbfdaa
set_option linter.unusedSimpArgs false
set_option linter.unusedVariables false
open Go.RowKit
theorem firstIx_sr (p:Nat→Prop) (n:Nat):(firstIx p n<n→p (firstIx p n))∧∀ j,j<firstIx p n→¬ p j:=by
 induction n with
 | zero=>exact ⟨fun h=>by simp [firstIx] at h,fun j hj=>by simp [firstIx] at hj⟩
 | succ n ih =>
  by_cases h1:firstIx p n<n
  ·have e:firstIx p (n+1)=firstIx p n:=by simp only [firstIx];rw [if_pos h1]
   rw [e];exact ⟨fun _=>ih.1 h1,ih.2⟩
  ·have h0:=firstIx_le p n
   have hn:firstIx p n=n:=by omega
   rw [hn] at ih
   by_cases h2:p n
   ·have e:firstIx p (n+1)=n:=by simp only [firstIx];rw [if_neg h1,if_pos h2]
    rw [e];exact ⟨fun _=>h2,ih.2⟩
   ·have e:firstIx p (n+1)=n+1:=by simp only [firstIx];rw [if_neg h1,if_neg h2]
    rw [e];exact ⟨fun h=>by omega,fun j hj=>by
     by_cases ej:j=n
     ·subst ej;exact h2
     ·exact ih.2 j (by omega)⟩
theorem findF_hit {xs:List Int} {v:Int} (h:0≤findF xs v):∃ i,i<xs.length∧ix xs i=v:=by
 have hs:=firstIx_sr (fun i=>ix xs i=v) xs.length
 unfold findF at h
 split at h
 ·next g=>exact ⟨_,g,hs.1 g⟩
 ·omega
noncomputable def backF (cols:List Int) (k:Nat):List Int:=(List.range k).map fun (i:Nat)=>findF cols (i:Int)
end Go.Proofs.Ytfobmfngbfbfdaa
namespace Go.Proofs.Ytfobmfngbfbfdaa
set_option linter.unusedSimpArgs false
set_option linter.unusedVariables false
open Go.RowKit
theorem l7FindX (l:List Int) (v:Int) (hl:l.length≤1048576):AFn 72 [.d (intsD l),.d (.int v)] [] (fun r os=>r=.d (.int (findF l v))∧os=[]):=by
 have hr:I64 (findF l v):=by
  have:=firstIx_le (fun i=>ix l i=v) l.length
  unfold findF I64
  split <;> omega
 refine gives_afn (fnOK (by kernel_rfl)) (fun _ _=>cvInt.2 ⟨rfl,hr⟩) ?_
 rintro w G _ ⟨v1,_,rfl,h1,v2,_,rfl,h2,rfl⟩ hC
 obtain ⟨a,n,c,rfl,hI⟩:=cv_ints hC h1
 obtain ⟨rfl,_⟩:=cvInt.1 h2
 exact specFind a n c l v w hI
end Go.Proofs.Ytfobmfngbfbfdaa
namespace Go.Proofs.Ytfobmfngbfbfdaa
set_option linter.unusedSimpArgs false
set_option linter.unusedVariables false
attribute [local go_sem ↓] reduceIte
attribute [local go_sem] Nat.reduceEqDiff Nat.reduceLT Nat.reduceAdd Nat.reduceLeDiff Nat.reduceMul Nat.reduceBEq Nat.reduceSub reduceCtorEq Int.reduceLE Int.reduceNeg Int.reduceLT
open Go.RowKit
theorem free_val:∀ (n:Nat) (l:List Int),l.length<n→∃ v:Int,0≤v∧v<n∧v ∉ l
 | 0,l,h=>by omega
 | n+1,l,h=>by
  by_cases hm:(n:Int)∈l
  ·have hp:=List.length_pos_of_mem hm
   obtain ⟨v,h1,h2,h3⟩:=free_val n (l.erase (n:Int)) (by rw [List.length_erase_of_mem hm];omega)
   exact ⟨v,h1,by omega,fun hv=>h3 ((List.mem_erase_of_ne (by omega)).2 hv)⟩
  ·exact ⟨n,by omega,by omega,hm⟩
theorem ix_mem {l:List Int} {i:Nat} (hi:i<l.length):ix l i∈l:=by rw [ix_lt hi];exact List.getElem_mem _
def around (n k v:Int):Nat:=(if k≤v then v - k else v - k+n).toNat
theorem l16ColsB (n:Int) (hn:n≤1000):AFn 64 [.ptr 0 0,.d (.int n)] [curL] (fun r os=>∃ l:List Int,((l.length:Nat):Int)=max 0 n∧r=.buf 0 3 1 (l.map .int)∧os=[curL]):=by
 refine afn_of (rv:=[.tmp 4]) tyT_ok Try.func64 rfl (by decide +kernel) Try.ntmps64 rfl (by simp) ?_
 repeat' (first | refine sq ?_ | refine stp ?_ | refine blk_o (by decide) ?_ | (apply cb;(focus (simp (disch:=(first | omega | (simp;omega))) only [go_sem,w64];try exact rfl));refine cok ?_) | (refine rgT ?_;intro K hK) | (refine dA ?_;intro K hK) | (with_reducible refine hK _ ?_;clear hK K) | (refine stq ?_;simp (disch:=(first | omega | (simp;omega))) only [go_sem,w64]) | refine as1 ?_ | fail)
 refine awp_loopw (fun m s=>∃ (l:List Int),m=(n - l.length).toNat∧((l.length:Nat):Int)≤max 0 n∧s=mkS [(0,.ptr 1000000 0),(1,.d (.int n)),(5,.buf 7 3 1 (l.map .int))] [(1000000,curL)]) ?_ ?_
 ·refine ⟨_,_,?_,[],rfl,by simp;omega,rfl⟩
  exact sleA
 ·rintro m s ⟨l,rfl,hl,rfl⟩
  have hl2:l.length≤1000:=by omega
  repeat' (first | refine sq ?_ | refine stp ?_ | refine blk_o (by decide) ?_ | (apply cb;(focus (simp (disch:=(first | omega | (simp;omega))) only [go_sem,w64];try exact rfl));refine cok ?_) | (refine rgT ?_;intro K hK) | (refine dA ?_;intro K hK) | (with_reducible refine hK _ ?_;clear hK K) | (refine stq ?_;simp (disch:=(first | omega | (simp;omega))) only [go_sem,w64]) | refine as1 ?_ | fail)
  refine awp_if (p:=((l.length:Nat):Int)<n) (by simp (disch:=(first | omega | (simp;omega))) only [go_sem,w64]) ?_ ?_ <;> intro hc
  ·obtain ⟨v,hv0,hv1,hv2⟩:=free_val n.toNat l (by omega)
   repeat' (first | refine sq ?_ | refine stp ?_ | refine blk_o (by decide) ?_ | (apply cb;(focus (simp (disch:=(first | omega | (simp;omega))) only [go_sem,w64];try exact rfl));refine cok ?_) | (refine rgT ?_;intro K hK) | (refine dA ?_;intro K hK) | (with_reducible refine hK _ ?_;clear hK K) | (refine stq ?_;simp (disch:=(first | omega | (simp;omega))) only [go_sem,w64]) | refine as1 ?_ | fail)
   (refine callL 1000000 (l1BelowA n) ?_)
   rintro r os ⟨x,⟨hx0,_,hx1⟩,rfl,rfl⟩
   have hx2:=hx1 (by omega)
   refine ⟨by decide,?_⟩
   repeat' (first | refine sq ?_ | refine stp ?_ | refine blk_o (by decide) ?_ | (apply cb;(focus (simp (disch:=(first | omega | (simp;omega))) only [go_sem,w64];try exact rfl));refine cok ?_) | (refine rgT ?_;intro K hK) | (refine dA ?_;intro K hK) | (with_reducible refine hK _ ?_;clear hK K) | (refine stq ?_;simp (disch:=(first | omega | (simp;omega))) only [go_sem,w64]) | refine as1 ?_ | fail)
   refine awp_loopw (fun m s=>∃ (k:Int),m=around n k v∧0≤k∧k<n∧s=mkS [(0,.ptr 1000000 0),(1,.d (.int n)),(5,.buf 7 3 1 (l.map .int)),(6,.d (.int k))] [(1000000,curL)]) ?_ ?_
   ·refine ⟨_,_,?_,x,rfl,hx0,hx2,rfl⟩
    exact sleA
   ·rintro m s ⟨k,rfl,hk0,hk1,rfl⟩
    repeat' (first | refine sq ?_ | refine stp ?_ | refine blk_o (by decide) ?_ | (apply cb;(focus (simp (disch:=(first | omega | (simp;omega))) only [go_sem,w64];try exact rfl));refine cok ?_) | (refine rgT ?_;intro K hK) | (refine dA ?_;intro K hK) | (with_reducible refine hK _ ?_;clear hK K) | (refine stq ?_;simp (disch:=(first | omega | (simp;omega))) only [go_sem,w64]) | refine as1 ?_ | fail)
    (first | refine callA (l7FindX l k (by omega)) ?_ | refine callD (l7FindX l k (by omega)) ?_ | refine callE (l7FindX l k (by omega)) ?_ | refine callF (l7FindX l k (by omega)) ?_ ?_)
    by_cases hf:0≤findF l k
    ·have hft:0≤findF l k↔True:=iff_of_true hf trivial
     obtain ⟨i,hi,e⟩:=findF_hit hf
     have hkv:k ≠ v:=fun e2=>hv2 (by rw [← e2,← e];exact ix_mem hi)
     have w1:IntKind.i64.wrap (k+1)=k+1:=w64 (by omega)
     have w2:(k+1).tmod n=(k+1) % n:=tmod_w (by omega)
     have hn0:¬ n=0:=by omega
     repeat' (first | refine sq ?_ | refine stp ?_ | refine blk_o (by decide) ?_ | (apply cb;(focus (simp (disch:=(first | omega | (simp;omega))) only [go_sem,w64,hft,w1,w2,hn0];try exact rfl));refine cok ?_) | (refine rgT ?_;intro K hK) | (refine dA ?_;intro K hK) | (with_reducible refine hK _ ?_;clear hK K) | (refine stq ?_;simp (disch:=(first | omega | (simp;omega))) only [go_sem,w64,hft,w1,w2,hn0]) | refine as1 ?_ | fail)
     by_cases hq:k+1<n
     ·rw [Int.emod_eq_of_lt (by omega) hq]
      refine ⟨around n (k+1) v,_,?_,?_,k+1,rfl,by omega,hq,rfl⟩
      ·unfold around;split <;> split <;> omega
      ·exact sleA
     ·have e1:k+1=n:=by omega
      rw [e1,Int.emod_self]
      refine ⟨around n 0 v,_,?_,?_,0,rfl,by omega,by omega,rfl⟩
      ·unfold around;split <;> split <;> omega
      ·exact sleA
    ·have hft:0≤findF l k↔False:=iff_of_false hf id
     repeat' (first | refine sq ?_ | refine stp ?_ | refine blk_o (by decide) ?_ | (apply cb;(focus (simp (disch:=(first | omega | (simp;omega))) only [go_sem,w64,hft];try exact rfl));refine cok ?_) | (refine rgT ?_;intro K hK) | (refine dA ?_;intro K hK) | (with_reducible refine hK _ ?_;clear hK K) | (refine stq ?_;simp (disch:=(first | omega | (simp;omega))) only [go_sem,w64,hft]) | refine as1 ?_ | fail)
     refine ⟨(n - ((l ++ [k]).length:Nat)).toNat,_,by simp;omega,?_,l ++ [k],rfl,by simp;omega,rfl⟩
     rw [List.map_append]
     exact sleA
  ·repeat' (first | refine sq ?_ | refine stp ?_ | refine blk_o (by decide) ?_ | (apply cb;(focus (simp (disch:=(first | omega | (simp;omega))) only [go_sem,w64];try exact rfl));refine cok ?_) | (refine rgT ?_;intro K hK) | (refine dA ?_;intro K hK) | (with_reducible refine hK _ ?_;clear hK K) | (refine stq ?_;simp (disch:=(first | omega | (simp;omega))) only [go_sem,w64]) | refine as1 ?_ | fail)
   refine end1 7 (.inr rfl) (by simp (disch:=(first | omega | (simp;omega))) only [go_sem,w64];rfl) (by simp (disch:=(first | omega | (simp;omega))) only [go_sem,w64];rfl) (r:=.buf 0 3 1 (l.map .int)) (by simp (disch:=(first | omega | (simp;omega))) only [go_sem,w64];exact .refl _) ?_
   exact ⟨l,by omega,rfl,rfl⟩
theorem l16ColsA (n:Int) (hn:n≤1000):AFn 64 [.ptr 0 0,.d (.int n)] [curL] (fun r os=>∃ l:List Int,((l.length:Nat):Int)=max 0 n∧r=.d (intsD l)∧os=[curL]) :=
 afn_weak1 (l16ColsB n hn) (fun r os ⟨l,h,e1,e2⟩=>by subst e1;exact ⟨.d (intsD l),curL,curL,e2,.buf _ _ _ _,ales_eq rfl,l,h,rfl,rfl⟩)
end Go.Proofs.Ytfobmfngbfbfdaa
namespace Go.Proofs.Ytfobmfngbfbfdaa
set_option linter.unusedSimpArgs false
set_option linter.unusedVariables false
attribute [local go_sem ↓] reduceIte
attribute [local go_sem] Nat.reduceEqDiff Nat.reduceLT Nat.reduceAdd Nat.reduceLeDiff Nat.reduceMul Nat.reduceBEq Nat.reduceSub reduceCtorEq Int.reduceLE Int.reduceNeg Int.reduceLT
open Go.RowKit
theorem bt_fit (ar:Int) (rows:List (List Int)) (cols:List Int):RelFit (btAr ar rows cols) (btRows ar rows cols):=by
 have h0:RelFit 0 []:=⟨by omega,by omega,by simp,fun x hx=>(by cases hx)⟩
 cases h:btOK ar rows cols with
 | false=>obtain ⟨e1,e2⟩:=bt_no h;rw [e1,e2];exact h0
 | true =>
  obtain ⟨e1,e2⟩:=bt_yes h
  rw [e1,e2]
  cases h1:prOK ar rows cols with
  | false=>obtain ⟨e1,e2⟩:=pr_no h1;rw [e1,e2];exact h0
  | true =>
   have h2:=h1
   simp only [prOK,Bool.and_eq_true] at h2
   obtain ⟨_,q1,q2⟩:=pr_nr h2.1.1 h2.1.2
   rw [q1,q2]
   exact nr_fit _ _
theorem l16TrieA:AFn 56 [.ptr 0 0] [curL] (fun r os=>anyRel r∧os=[curL]):=by
 refine afn_of (rv:=[.cell 2 26]) tyT_ok Try.func56 rfl (by decide +kernel) Try.ntmps56 rfl (by simp) ?_
 repeat' (first | refine sq ?_ | refine stp ?_ | refine blk_o (by decide) ?_ | (apply cb;(focus (simp (disch:=(first | omega | (simp;omega))) only [go_sem,w64];try exact rfl));refine cok ?_) | (refine rgT ?_;intro K hK) | (refine dA ?_;intro K hK) | (with_reducible refine hK _ ?_;clear hK K) | (refine stq ?_;simp (disch:=(first | omega | (simp;omega))) only [go_sem,w64]) | refine as1 ?_ | fail)
 (refine callL 1000000 (l1BelowA 4) ?_)
 rintro r os ⟨n,⟨hn0,_,hn1⟩,rfl,rfl⟩
 have hn2:=hn1 (by omega)
 refine ⟨by decide,?_⟩
 repeat' (first | refine sq ?_ | refine stp ?_ | refine blk_o (by decide) ?_ | (apply cb;(focus (simp (disch:=(first | omega | (simp;omega))) only [go_sem,w64];try exact rfl));refine cok ?_) | (refine rgT ?_;intro K hK) | (refine dA ?_;intro K hK) | (with_reducible refine hK _ ?_;clear hK K) | (refine stq ?_;simp (disch:=(first | omega | (simp;omega))) only [go_sem,w64]) | refine as1 ?_ | fail)
 (refine callL 1000000 (l5RelS n 9 4 (by omega) (by omega) (by omega)) ?_)
 rintro r os ⟨ar,rows,hf,hr,rfl⟩
 refine ⟨by decide,?_⟩
 rcases hr with ⟨rfl,rfl⟩ | rfl
 ·repeat' (first | refine sq ?_ | refine stp ?_ | refine blk_o (by decide) ?_ | (apply cb;(focus (simp (disch:=(first | omega | (simp;omega))) only [go_sem,w64];try exact rfl));refine cok ?_) | (refine rgT ?_;intro K hK) | (refine dA ?_;intro K hK) | (with_reducible refine hK _ ?_;clear hK K) | (refine stq ?_;simp (disch:=(first | omega | (simp;omega))) only [go_sem,w64]) | refine as1 ?_ | fail)
  (refine callDL (j:=0) 1000000 (l16ColsA n (by omega)) ?_ ?_)
  ·exact ⟨_,_,List.replicate n.toNat 0,by simp;omega,rfl,rfl⟩
  rintro r os ⟨cols,hc,rfl,rfl⟩
  refine ⟨[],rfl,by decide,?_⟩
  repeat' (first | refine sq ?_ | refine stp ?_ | refine blk_o (by decide) ?_ | (apply cb;(focus (simp (disch:=(first | omega | (simp;omega))) only [go_sem,w64];try exact rfl));refine cok ?_) | (refine rgT ?_;intro K hK) | (refine dA ?_;intro K hK) | (with_reducible refine hK _ ?_;clear hK K) | (refine stq ?_;simp (disch:=(first | omega | (simp;omega))) only [go_sem,w64]) | refine as1 ?_ | fail)
  (first | refine callA (specBuildTrieA ar [] cols (by omega)) ?_ | refine callD (specBuildTrieA ar [] cols (by omega)) ?_ | refine callE (specBuildTrieA ar [] cols (by omega)) ?_ | refine callF (specBuildTrieA ar [] cols (by omega)) ?_ ?_)
  repeat' (first | refine sq ?_ | refine stp ?_ | refine blk_o (by decide) ?_ | (apply cb;(focus (simp (disch:=(first | omega | (simp;omega))) only [go_sem,w64];try exact rfl));refine cok ?_) | (refine rgT ?_;intro K hK) | (refine dA ?_;intro K hK) | (with_reducible refine hK _ ?_;clear hK K) | (refine stq ?_;simp (disch:=(first | omega | (simp;omega))) only [go_sem,w64]) | refine as1 ?_ | fail)
  refine end1 0 (.inr rfl) (by simp (disch:=(first | omega | (simp;omega))) only [go_sem,w64];rfl) (by simp (disch:=(first | omega | (simp;omega))) only [go_sem,w64];rfl) (r:=.d (relD (btAr ar [] cols) (btRows ar [] cols))) (by simp (disch:=(first | omega | (simp;omega))) only [go_sem,w64];exact .refl _) ⟨⟨_,_,(bt_fit _ _ _).any,rfl⟩,rfl⟩
 ·repeat' (first | refine sq ?_ | refine stp ?_ | refine blk_o (by decide) ?_ | (apply cb;(focus (simp (disch:=(first | omega | (simp;omega))) only [go_sem,w64];try exact rfl));refine cok ?_) | (refine rgT ?_;intro K hK) | (refine dA ?_;intro K hK) | (with_reducible refine hK _ ?_;clear hK K) | (refine stq ?_;simp (disch:=(first | omega | (simp;omega))) only [go_sem,w64]) | refine as1 ?_ | fail)
  (refine callDL (j:=0) 1000000 (l16ColsA n (by omega)) ?_ ?_)
  ·exact ⟨_,_,List.replicate n.toNat 0,by simp;omega,rfl,rfl⟩
  rintro r os ⟨cols,hc,rfl,rfl⟩
  refine ⟨[],rfl,by decide,?_⟩
  repeat' (first | refine sq ?_ | refine stp ?_ | refine blk_o (by decide) ?_ | (apply cb;(focus (simp (disch:=(first | omega | (simp;omega))) only [go_sem,w64];try exact rfl));refine cok ?_) | (refine rgT ?_;intro K hK) | (refine dA ?_;intro K hK) | (with_reducible refine hK _ ?_;clear hK K) | (refine stq ?_;simp (disch:=(first | omega | (simp;omega))) only [go_sem,w64]) | refine as1 ?_ | fail)
  (first | refine callA (specBuildTrieA ar rows cols (by omega)) ?_ | refine callD (specBuildTrieA ar rows cols (by omega)) ?_ | refine callE (specBuildTrieA ar rows cols (by omega)) ?_ | refine callF (specBuildTrieA ar rows cols (by omega)) ?_ ?_)
  repeat' (first | refine sq ?_ | refine stp ?_ | refine blk_o (by decide) ?_ | (apply cb;(focus (simp (disch:=(first | omega | (simp;omega))) only [go_sem,w64];try exact rfl));refine cok ?_) | (refine rgT ?_;intro K hK) | (refine dA ?_;intro K hK) | (with_reducible refine hK _ ?_;clear hK K) | (refine stq ?_;simp (disch:=(first | omega | (simp;omega))) only [go_sem,w64]) | refine as1 ?_ | fail)
  refine end1 0 (.inr rfl) (by simp (disch:=(first | omega | (simp;omega))) only [go_sem,w64];rfl) (by simp (disch:=(first | omega | (simp;omega))) only [go_sem,w64];rfl) (r:=.d (relD (btAr ar rows cols) (btRows ar rows cols))) (by simp (disch:=(first | omega | (simp;omega))) only [go_sem,w64];exact .refl _) ⟨⟨_,_,(bt_fit _ _ _).any,rfl⟩,rfl⟩
theorem l16AnyA:AFn 47 [.ptr 0 0] [curL] (fun r os=>anyRel r∧os=[curL]):=by
 refine afn_of (rv:=[.cell 2 26]) tyT_ok Try.func47 rfl (by decide +kernel) Try.ntmps47 rfl (by simp) ?_
 repeat' (first | refine sq ?_ | refine stp ?_ | refine blk_o (by decide) ?_ | (apply cb;(focus (simp (disch:=(first | omega | (simp;omega))) only [go_sem,w64];try exact rfl));refine cok ?_) | (refine rgT ?_;intro K hK) | (refine dA ?_;intro K hK) | (with_reducible refine hK _ ?_;clear hK K) | (refine stq ?_;simp (disch:=(first | omega | (simp;omega))) only [go_sem,w64]) | refine as1 ?_ | fail)
 (refine callL 1000000 (l1OnceA 10) ?_)
 rintro r os ⟨b,rfl,rfl⟩
 refine ⟨by decide,?_⟩
 cases b with
 | true =>
  repeat' (first | refine sq ?_ | refine stp ?_ | refine blk_o (by decide) ?_ | (apply cb;(focus (simp (disch:=(first | omega | (simp;omega))) only [go_sem,w64];try exact rfl));refine cok ?_) | (refine rgT ?_;intro K hK) | (refine dA ?_;intro K hK) | (with_reducible refine hK _ ?_;clear hK K) | (refine stq ?_;simp (disch:=(first | omega | (simp;omega))) only [go_sem,w64]) | refine as1 ?_ | fail)
  (refine callL 1000000 (l5AnyA) ?_)
  rintro r os ⟨⟨ar,rows,hA,rfl⟩,rfl⟩
  refine ⟨by decide,?_⟩
  repeat' (first | refine sq ?_ | refine stp ?_ | refine blk_o (by decide) ?_ | (apply cb;(focus (simp (disch:=(first | omega | (simp;omega))) only [go_sem,w64,relD];try exact rfl));refine cok ?_) | (refine rgT ?_;intro K hK) | (refine dA ?_;intro K hK) | (with_reducible refine hK _ ?_;clear hK K) | (refine stq ?_;simp (disch:=(first | omega | (simp;omega))) only [go_sem,w64,relD]) | refine as1 ?_ | fail)
  refine end1 0 (.inr rfl) (by simp (disch:=(first | omega | (simp;omega))) only [go_sem,w64];rfl) (by simp (disch:=(first | omega | (simp;omega))) only [go_sem,w64];rfl) (r:=.d (relD ar rows)) (by simp (disch:=(first | omega | (simp;omega))) only [go_sem,w64];exact .refl _) ⟨⟨_,_,hA,rfl⟩,rfl⟩
 | false =>
  repeat' (first | refine sq ?_ | refine stp ?_ | refine blk_o (by decide) ?_ | (apply cb;(focus (simp (disch:=(first | omega | (simp;omega))) only [go_sem,w64];try exact rfl));refine cok ?_) | (refine rgT ?_;intro K hK) | (refine dA ?_;intro K hK) | (with_reducible refine hK _ ?_;clear hK K) | (refine stq ?_;simp (disch:=(first | omega | (simp;omega))) only [go_sem,w64]) | refine as1 ?_ | fail)
  (refine callL 1000000 (l16TrieA) ?_)
  rintro r os ⟨⟨ar,rows,hA,rfl⟩,rfl⟩
  refine ⟨by decide,?_⟩
  repeat' (first | refine sq ?_ | refine stp ?_ | refine blk_o (by decide) ?_ | (apply cb;(focus (simp (disch:=(first | omega | (simp;omega))) only [go_sem,w64,relD];try exact rfl));refine cok ?_) | (refine rgT ?_;intro K hK) | (refine dA ?_;intro K hK) | (with_reducible refine hK _ ?_;clear hK K) | (refine stq ?_;simp (disch:=(first | omega | (simp;omega))) only [go_sem,w64,relD]) | refine as1 ?_ | fail)
  refine end1 0 (.inr rfl) (by simp (disch:=(first | omega | (simp;omega))) only [go_sem,w64];rfl) (by simp (disch:=(first | omega | (simp;omega))) only [go_sem,w64];rfl) (r:=.d (relD ar rows)) (by simp (disch:=(first | omega | (simp;omega))) only [go_sem,w64];exact .refl _) ⟨⟨_,_,hA,rfl⟩,rfl⟩
end Go.Proofs.Ytfobmfngbfbfdaa
