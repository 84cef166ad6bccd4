/- Lemmas for the proof of FnIteration, part 21 of 22: no condition of their own. -/
import Derived.Test.YtfobmfngbfbfdaaJ20
namespace Go.Proofs.Ytfobmfngbfbfdaa
set_option linter.unusedSimpArgs false
set_option linter.unusedVariables false
attribute [local go_sem ↓] reduceIte
attribute [local go_sem] Nat.reduceEqDiff Nat.reduceLT Nat.reduceAdd Nat.reduceLeDiff Nat.reduceMul Nat.reduceBEq Nat.reduceSub reduceCtorEq Int.reduceLE Int.reduceNeg Int.reduceLT
open Go.RowKit
theorem eqIt_self (ar:Int) (rows:List (List Int)) (lw gh ps:List Int):eqIt ar ar rows rows lw lw gh gh ps ps=true:=by
 simp [eqIt,eqT,eqL]
set_option maxHeartbeats 4000000 in
theorem lawSeekA (code:List Int) (hl:code.length≤9223372036854775807):AFn 3 [.d (.sl 1 (code.map .byte))] [] (fun r os=>r=.d (.bool true)∧os=[]):=by
 refine afn_of (rv:=[.tmp 2]) tyT_ok Try.func3 rfl (by decide +kernel) Try.ntmps3 rfl (by simp) ?_
 by_cases hb:(1048576:Int)<(code.length:Nat)
 ·repeat' (first | refine sq ?_ | refine stp ?_ | refine blk_o (by decide) ?_ | (apply cb;(focus (simp (disch:=(first | omega | (simp;omega))) only [go_sem,w64];try exact rfl));refine cok ?_) | (refine rgT ?_;intro K hK) | (refine dA ?_;intro K hK) | (with_reducible refine hK _ ?_;clear hK K) | (refine stq ?_;simp (disch:=(first | omega | (simp;omega))) only [go_sem,w64]) | refine as1 ?_ | fail)
  (first | refine callA (bigA code hl) ?_ | refine callD (bigA code hl) ?_ | refine callE (bigA code hl) ?_ | refine callF (bigA code hl) ?_ ?_)
  repeat' (first | refine sq ?_ | refine stp ?_ | refine blk_o (by decide) ?_ | (apply cb;(focus (simp (disch:=(first | omega | (simp;omega))) only [go_sem,w64,hb];try exact rfl));refine cok ?_) | (refine rgT ?_;intro K hK) | (refine dA ?_;intro K hK) | (with_reducible refine hK _ ?_;clear hK K) | (refine stq ?_;simp (disch:=(first | omega | (simp;omega))) only [go_sem,w64,hb]) | refine as1 ?_ | fail)
  (refine endA (r:=.d (.bool true)) ?_)
  exact ⟨rfl,rfl⟩
 have hb':(1048576:Int)<(code.length:Nat)↔False:=iff_of_false hb id
 have hc:code.length≤1048576:=by omega
 repeat' (first | refine sq ?_ | refine stp ?_ | refine blk_o (by decide) ?_ | (apply cb;(focus (simp (disch:=(first | omega | (simp;omega))) only [go_sem,w64];try exact rfl));refine cok ?_) | (refine rgT ?_;intro K hK) | (refine dA ?_;intro K hK) | (with_reducible refine hK _ ?_;clear hK K) | (refine stq ?_;simp (disch:=(first | omega | (simp;omega))) only [go_sem,w64]) | refine as1 ?_ | fail)
 (first | refine callA (bigA code hl) ?_ | refine callD (bigA code hl) ?_ | refine callE (bigA code hl) ?_ | refine callF (bigA code hl) ?_ ?_)
 repeat' (first | refine sq ?_ | refine stp ?_ | refine blk_o (by decide) ?_ | (apply cb;(focus (simp (disch:=(first | omega | (simp;omega))) only [go_sem,w64,hb'];try exact rfl));refine cok ?_) | (refine rgT ?_;intro K hK) | (refine dA ?_;intro K hK) | (with_reducible refine hK _ ?_;clear hK K) | (refine stq ?_;simp (disch:=(first | omega | (simp;omega))) only [go_sem,w64,hb']) | refine as1 ?_ | fail)
 refine callE (drawSeekA code hc) ?_
 rintro r os ⟨ar,rows,lw,gh,ps,v,hA,rfl,rfl⟩
 refine ⟨by decide,?_⟩
 have hsz:=hA.sz
 have hI:=implSeekA ar rows lw gh ps hsz v
 have hS:=specSeekA ar rows lw gh ps hsz v
 have hE:=specEqItA ar rows lw gh (seekP ar rows lw gh ps v) ar rows lw gh (seekP ar rows lw gh ps v)
 have hE2:=specEqItA ar rows lw gh (seekP ar rows lw gh ps v) ar rows lw gh ps
 have hC1:=implCurKeyA ar rows lw gh ps
 have hC2:=implCurKeyA ar rows lw gh (seekP ar rows lw gh ps v)
 have hV:=implValidItA ar rows lw gh (seekP ar rows lw gh ps v)
 have hT:=implAtEndA ar rows lw gh (seekP ar rows lw gh ps v)
 have hsz2:szIter rows lw gh (seekP ar rows lw gh ps v)≤1048576:=by
  have:=seekP_len ar rows lw gh ps v
  unfold szIter at hsz ⊢;omega
 have hI2:=implSeekA ar rows lw gh (seekP ar rows lw gh ps v) hsz2 v
 have hlaw:=fun h=>seek_law (ar:=ar) (rows:=rows) (low:=lw) (high:=gh) (pos:=ps) h v
 have hnoP:standsF ar rows lw gh ps=false→seekP ar rows lw gh ps v=ps:=seekP_no
 rw [eqIt_self] at hE
 cases hst:standsF ar rows lw gh ps with
 | false =>
  rw [hnoP hst] at hE2 hE hI hS
  rw [hst] at hI hS
  rw [eqIt_self] at hE2
  repeat' (first | refine sq ?_ | refine stp ?_ | refine blk_o (by decide) ?_ | (apply cb;(focus (simp (disch:=(first | omega | (simp;omega))) only [go_sem,w64];try exact rfl));refine cok ?_) | (refine rgT ?_;intro K hK) | (refine dA ?_;intro K hK) | (with_reducible refine hK _ ?_;clear hK K) | (refine stq ?_;simp (disch:=(first | omega | (simp;omega))) only [go_sem,w64]) | refine as1 ?_ | fail)
  (first | refine callA (hI) ?_ | refine callD (hI) ?_ | refine callE (hI) ?_ | refine callF (hI) ?_ ?_)
  repeat' (first | refine sq ?_ | refine stp ?_ | refine blk_o (by decide) ?_ | (apply cb;(focus (simp (disch:=(first | omega | (simp;omega))) only [go_sem,w64];try exact rfl));refine cok ?_) | (refine rgT ?_;intro K hK) | (refine dA ?_;intro K hK) | (with_reducible refine hK _ ?_;clear hK K) | (refine stq ?_;simp (disch:=(first | omega | (simp;omega))) only [go_sem,w64]) | refine as1 ?_ | fail)
  (first | refine callA (hS) ?_ | refine callD (hS) ?_ | refine callE (hS) ?_ | refine callF (hS) ?_ ?_)
  repeat' (first | refine sq ?_ | refine stp ?_ | refine blk_o (by decide) ?_ | (apply cb;(focus (simp (disch:=(first | omega | (simp;omega))) only [go_sem,w64];try exact rfl));refine cok ?_) | (refine rgT ?_;intro K hK) | (refine dA ?_;intro K hK) | (with_reducible refine hK _ ?_;clear hK K) | (refine stq ?_;simp (disch:=(first | omega | (simp;omega))) only [go_sem,w64]) | refine as1 ?_ | fail)
  (first | refine callA (hE) ?_ | refine callD (hE) ?_ | refine callE (hE) ?_ | refine callF (hE) ?_ ?_)
  repeat' (first | refine sq ?_ | refine stp ?_ | refine blk_o (by decide) ?_ | (apply cb;(focus (simp (disch:=(first | omega | (simp;omega))) only [go_sem,w64];try exact rfl));refine cok ?_) | (refine rgT ?_;intro K hK) | (refine dA ?_;intro K hK) | (with_reducible refine hK _ ?_;clear hK K) | (refine stq ?_;simp (disch:=(first | omega | (simp;omega))) only [go_sem,w64]) | refine as1 ?_ | fail)
  (first | refine callA (hE2) ?_ | refine callD (hE2) ?_ | refine callE (hE2) ?_ | refine callF (hE2) ?_ ?_)
  repeat' (first | refine sq ?_ | refine stp ?_ | refine blk_o (by decide) ?_ | (apply cb;(focus (simp (disch:=(first | omega | (simp;omega))) only [go_sem,w64];try exact rfl));refine cok ?_) | (refine rgT ?_;intro K hK) | (refine dA ?_;intro K hK) | (with_reducible refine hK _ ?_;clear hK K) | (refine stq ?_;simp (disch:=(first | omega | (simp;omega))) only [go_sem,w64]) | refine as1 ?_ | fail)
  (refine endA (r:=.d (.bool true)) ?_)
  exact ⟨rfl,rfl⟩
 | true =>
  obtain ⟨k1,k2,k3,k4,k5⟩:=hlaw hst
  rw [hst] at hI hS hC1
  rw [k1] at hV
  rw [k4] at hI2
  generalize seekP ar rows lw gh ps v=ps2 at *
  generalize atEndF ar rows lw gh ps2=ae at *
  generalize curKey ar rows lw gh ps=a at *
  generalize curKey ar rows lw gh ps2=b at *
  rw [k2] at hC2 hI2 k3
  repeat' (first | refine sq ?_ | refine stp ?_ | refine blk_o (by decide) ?_ | (apply cb;(focus (simp (disch:=(first | omega | (simp;omega))) only [go_sem,w64];try exact rfl));refine cok ?_) | (refine rgT ?_;intro K hK) | (refine dA ?_;intro K hK) | (with_reducible refine hK _ ?_;clear hK K) | (refine stq ?_;simp (disch:=(first | omega | (simp;omega))) only [go_sem,w64]) | refine as1 ?_ | fail)
  (first | refine callA (hI) ?_ | refine callD (hI) ?_ | refine callE (hI) ?_ | refine callF (hI) ?_ ?_)
  repeat' (first | refine sq ?_ | refine stp ?_ | refine blk_o (by decide) ?_ | (apply cb;(focus (simp (disch:=(first | omega | (simp;omega))) only [go_sem,w64];try exact rfl));refine cok ?_) | (refine rgT ?_;intro K hK) | (refine dA ?_;intro K hK) | (with_reducible refine hK _ ?_;clear hK K) | (refine stq ?_;simp (disch:=(first | omega | (simp;omega))) only [go_sem,w64]) | refine as1 ?_ | fail)
  (first | refine callA (hS) ?_ | refine callD (hS) ?_ | refine callE (hS) ?_ | refine callF (hS) ?_ ?_)
  repeat' (first | refine sq ?_ | refine stp ?_ | refine blk_o (by decide) ?_ | (apply cb;(focus (simp (disch:=(first | omega | (simp;omega))) only [go_sem,w64];try exact rfl));refine cok ?_) | (refine rgT ?_;intro K hK) | (refine dA ?_;intro K hK) | (with_reducible refine hK _ ?_;clear hK K) | (refine stq ?_;simp (disch:=(first | omega | (simp;omega))) only [go_sem,w64]) | refine as1 ?_ | fail)
  (first | refine callA (hE) ?_ | refine callD (hE) ?_ | refine callE (hE) ?_ | refine callF (hE) ?_ ?_)
  repeat' (first | refine sq ?_ | refine stp ?_ | refine blk_o (by decide) ?_ | (apply cb;(focus (simp (disch:=(first | omega | (simp;omega))) only [go_sem,w64];try exact rfl));refine cok ?_) | (refine rgT ?_;intro K hK) | (refine dA ?_;intro K hK) | (with_reducible refine hK _ ?_;clear hK K) | (refine stq ?_;simp (disch:=(first | omega | (simp;omega))) only [go_sem,w64]) | refine as1 ?_ | fail)
  (first | refine callA (hC1) ?_ | refine callD (hC1) ?_ | refine callE (hC1) ?_ | refine callF (hC1) ?_ ?_)
  repeat' (first | refine sq ?_ | refine stp ?_ | refine blk_o (by decide) ?_ | (apply cb;(focus (simp (disch:=(first | omega | (simp;omega))) only [go_sem,w64];try exact rfl));refine cok ?_) | (refine rgT ?_;intro K hK) | (refine dA ?_;intro K hK) | (with_reducible refine hK _ ?_;clear hK K) | (refine stq ?_;simp (disch:=(first | omega | (simp;omega))) only [go_sem,w64]) | refine as1 ?_ | fail)
  (first | refine callA (hC2) ?_ | refine callD (hC2) ?_ | refine callE (hC2) ?_ | refine callF (hC2) ?_ ?_)
  repeat' (first | refine sq ?_ | refine stp ?_ | refine blk_o (by decide) ?_ | (apply cb;(focus (simp (disch:=(first | omega | (simp;omega))) only [go_sem,w64];try exact rfl));refine cok ?_) | (refine rgT ?_;intro K hK) | (refine dA ?_;intro K hK) | (with_reducible refine hK _ ?_;clear hK K) | (refine stq ?_;simp (disch:=(first | omega | (simp;omega))) only [go_sem,w64]) | refine as1 ?_ | fail)
  (first | refine callA (hI2) ?_ | refine callD (hI2) ?_ | refine callE (hI2) ?_ | refine callF (hI2) ?_ ?_)
  repeat' (first | refine sq ?_ | refine stp ?_ | refine blk_o (by decide) ?_ | (apply cb;(focus (simp (disch:=(first | omega | (simp;omega))) only [go_sem,w64];try exact rfl));refine cok ?_) | (with_reducible refine hK _ ?_;clear hK K) | (refine stq ?_;simp (disch:=(first | omega | (simp;omega))) only [go_sem,w64]) | refine as1 ?_ | fail)
  refine awp_weak (s':=mkS [(3,.ptr 3 0),(4,.d (.int v)),(5,.ptr 5 0),(9,.d (.int a)),(11,.d (.int b)),(12,.d (.bool (!ae))),(13,.ptr 13 0)] [(5,[.d (.int ar),.d (rowsD rows),.d (intsD lw),.d (intsD gh),.d (intsD ps2)]),(13,[.d (.int ar),.d (rowsD rows),.d (intsD lw),.d (intsD gh),.d (intsD ps2)])]) (by exact sleA) ?_
  repeat' (first | refine sq ?_ | refine stp ?_ | refine blk_o (by decide) ?_ | (apply cb;(focus (simp (disch:=(first | omega | (simp;omega))) only [go_sem,w64];try exact rfl));refine cok ?_) | (refine rgT ?_;intro K hK) | (refine dA ?_;intro K hK) | (with_reducible refine hK _ ?_;clear hK K) | (refine stq ?_;simp (disch:=(first | omega | (simp;omega))) only [go_sem,w64]) | refine as1 ?_ | fail)
  (first | refine callA (hV) ?_ | refine callD (hV) ?_ | refine callE (hV) ?_ | refine callF (hV) ?_ ?_)
  cases ae with
  | true =>
   repeat' (first | refine sq ?_ | refine stp ?_ | refine blk_o (by decide) ?_ | (apply cb;(focus (simp (disch:=(first | omega | (simp;omega))) only [go_sem,w64];try exact rfl));refine cok ?_) | (refine rgT ?_;intro K hK) | (refine dA ?_;intro K hK) | (with_reducible refine hK _ ?_;clear hK K) | (refine stq ?_;simp (disch:=(first | omega | (simp;omega))) only [go_sem,w64]) | refine as1 ?_ | fail)
   (first | refine callA (hE) ?_ | refine callD (hE) ?_ | refine callE (hE) ?_ | refine callF (hE) ?_ ?_)
   repeat' (first | refine sq ?_ | refine stp ?_ | refine blk_o (by decide) ?_ | (apply cb;(focus (simp (disch:=(first | omega | (simp;omega))) only [go_sem,w64];try exact rfl));refine cok ?_) | (refine rgT ?_;intro K hK) | (refine dA ?_;intro K hK) | (with_reducible refine hK _ ?_;clear hK K) | (refine stq ?_;simp (disch:=(first | omega | (simp;omega))) only [go_sem,w64]) | refine as1 ?_ | fail)
   (first | refine callA (hT) ?_ | refine callD (hT) ?_ | refine callE (hT) ?_ | refine callF (hT) ?_ ?_)
   repeat' (first | refine sq ?_ | refine stp ?_ | refine blk_o (by decide) ?_ | (apply cb;(focus (simp (disch:=(first | omega | (simp;omega))) only [go_sem,w64];try exact rfl));refine cok ?_) | (refine rgT ?_;intro K hK) | (refine dA ?_;intro K hK) | (with_reducible refine hK _ ?_;clear hK K) | (refine stq ?_;simp (disch:=(first | omega | (simp;omega))) only [go_sem,w64]) | refine as1 ?_ | fail)
   (refine endA (r:=.d (.bool true)) ?_)
   exact ⟨rfl,rfl⟩
  | false =>
   obtain ⟨b1,b2⟩:=k3 rfl
   have z1:decide (v≤b)=true:=decide_eq_true b1
   have z2:decide (a≤b)=true:=decide_eq_true b2
   repeat' (first | refine sq ?_ | refine stp ?_ | refine blk_o (by decide) ?_ | (apply cb;(focus (simp (disch:=(first | omega | (simp;omega))) only [go_sem,w64,z1,z2];try exact rfl));refine cok ?_) | (refine rgT ?_;intro K hK) | (refine dA ?_;intro K hK) | (with_reducible refine hK _ ?_;clear hK K) | (refine stq ?_;simp (disch:=(first | omega | (simp;omega))) only [go_sem,w64,z1,z2]) | refine as1 ?_ | fail)
   (first | refine callA (hE) ?_ | refine callD (hE) ?_ | refine callE (hE) ?_ | refine callF (hE) ?_ ?_)
   repeat' (first | refine sq ?_ | refine stp ?_ | refine blk_o (by decide) ?_ | (apply cb;(focus (simp (disch:=(first | omega | (simp;omega))) only [go_sem,w64];try exact rfl));refine cok ?_) | (refine rgT ?_;intro K hK) | (refine dA ?_;intro K hK) | (with_reducible refine hK _ ?_;clear hK K) | (refine stq ?_;simp (disch:=(first | omega | (simp;omega))) only [go_sem,w64]) | refine as1 ?_ | fail)
   (first | refine callA (hT) ?_ | refine callD (hT) ?_ | refine callE (hT) ?_ | refine callF (hT) ?_ ?_)
   repeat' (first | refine sq ?_ | refine stp ?_ | refine blk_o (by decide) ?_ | (apply cb;(focus (simp (disch:=(first | omega | (simp;omega))) only [go_sem,w64];try exact rfl));refine cok ?_) | (refine rgT ?_;intro K hK) | (refine dA ?_;intro K hK) | (with_reducible refine hK _ ?_;clear hK K) | (refine stq ?_;simp (disch:=(first | omega | (simp;omega))) only [go_sem,w64]) | refine as1 ?_ | fail)
   (refine endA (r:=.d (.bool true)) ?_)
   exact ⟨rfl,rfl⟩
theorem law_FnSeek (a0:Option Addr) (n0:Nat) (c0:Nat) (xs0:List Int) (w:World) (hD0:BytesA false (0) w.heap.size w a0 n0 c0 xs0) :
 Calls Try.prog 3 #[.slice a0 n0 c0] w (Leaves w (.bool true)):=by
 have h:=lawSeekA xs0 (by rw [hD0.len];exact hD0.small)
 refine law_of_afn (vs:=[.slice a0 n0 c0]) h (fun G hG=>⟨_,_,rfl,cvSl.2 (bytes_cx hD0 (fun b i _ hb=>by rw [hG];exact hb)),rfl⟩)
end Go.Proofs.Ytfobmfngbfbfdaa
