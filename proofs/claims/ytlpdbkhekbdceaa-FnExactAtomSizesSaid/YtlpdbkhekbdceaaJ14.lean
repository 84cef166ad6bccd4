/- Lemmas for the proof of FnExactAtomSizes, part 14 of 19: no condition of their own. -/
import Derived.Test.YtlpdbkhekbdceaaJ10
import Derived.Test.YtlpdbkhekbdceaaJ11
import Derived.Test.YtlpdbkhekbdceaaJ13
import Derived.Test.YtlpdbkhekbdceaaJ12
namespace Go.Proofs.Ytlpdbkhekbdceaa
set_option linter.unusedSimpArgs false
set_option linter.unusedVariables false
attribute [local go_sem ↓] reduceIte
attribute [local go_sem] Nat.reduceEqDiff Nat.reduceLT Nat.reduceAdd Nat.reduceLeDiff Nat.reduceMul Nat.reduceBEq Nat.reduceSub reduceCtorEq Int.reduceLE Int.reduceNeg Int.reduceLT
open Go.RowKit
abbrev tableDV (x:TableD):DV:=.agg [.str x.nm,.int x.ar,rowsD x.rows]
abbrev dbD (xs:List TableD):DV:=.agg [.sl 3 (xs.map tableDV)]
def NmT (xs:List TableD):Prop:=∀ x∈xs,x.nm.size≤9223372036854775807
theorem getDT {xs:List TableD} {i:Nat} {x:DV} (h:i<xs.length):(xs.map tableDV).getD i x=tableDV (tbx xs i):=by simp [List.getD,tbx,h]
theorem NmT.at {xs:List TableD} (h:NmT xs) {i:Nat} (hi:i<xs.length):(tbx xs i).nm.size≤9223372036854775807:=by rw [tbx_lt hi];exact h _ (List.getElem_mem _)
def TblOK (xs:List TableD) (i:Nat):Prop :=
 nameOK (tbx xs i).nm=true∧(0<i→strLt (tbx xs (i - 1)).nm (tbx xs i).nm=true)∧validR (tbx xs i).ar (tbx xs i).rows=true∧1≤(tbx xs i).ar∧(tbx xs i).rows.length≤16
open Classical in
noncomputable def dbOK (xs:List TableD):Bool:=decide (xs.length≤6∧∀ i,i<xs.length→TblOK xs i)
open Classical in
theorem dbOK_yes {xs:List TableD} (h:xs.length≤6) (h2:∀ i,i<xs.length→TblOK xs i):dbOK xs=true:=decide_eq_true ⟨h,h2⟩
open Classical in
theorem dbOK_out {xs:List TableD} (h:dbOK xs=true):xs.length≤6∧∀ i,i<xs.length→TblOK xs i:=of_decide_eq_true h
open Classical in
theorem dbOK_len {xs:List TableD} (h:¬ xs.length≤6):dbOK xs=false:=decide_eq_false fun g=>h g.1
open Classical in
theorem dbOK_at {xs:List TableD} {i:Nat} (hi:i<xs.length) (h:¬ TblOK xs i):dbOK xs=false:=decide_eq_false fun g=>h (g.2 i hi)
theorem implNameA (s:ByteArray) (hs:s.size≤9223372036854775807):AFn 64 [.d (.str s)] [] (fun r os=>r=.d (.bool (nameOK s))∧os=[]):=by
 refine leaf_afn (fnOK (by kernel_rfl)) (fun _ _=>cvBool.2 rfl) ?_
 rintro w G _ ⟨v1,_,rfl,h1,rfl⟩ hC
 obtain rfl:=cvStr.1 h1
 exact implName s w hs
theorem specNameA (s:ByteArray) (hs:s.size≤9223372036854775807):AFn 56 [.d (.str s)] [] (fun r os=>r=.d (.bool (nameOK s))∧os=[]):=by
 refine leaf_afn (fnOK (by kernel_rfl)) (fun _ _=>cvBool.2 rfl) ?_
 rintro w G _ ⟨v1,_,rfl,h1,rfl⟩ hC
 obtain rfl:=cvStr.1 h1
 exact specName s w hs
set_option maxHeartbeats 4000000 in
theorem implDbA (xs:List TableD) (hn:NmT xs):AFn 42 [.d (dbD xs)] [] (fun r os=>r=.d (.bool (dbOK xs))∧os=[]):=by
 refine afn_of (rv:=[.tmp 2]) tyT_ok Try.func42 rfl (by decide +kernel) Try.ntmps42 rfl (by simp) ?_
 by_cases h6:(6:Int)<(xs.length:Nat)
 ·have h6t:(6:Int)<(xs.length:Nat)↔True:=iff_of_true h6 trivial
  repeat' (first | refine sq ?_ | refine stp ?_ | refine blk_o (by decide) ?_ | (apply cb;(focus (simp (disch:=(first | omega | (simp;omega))) only [go_sem,w64,List.length_map,h6t];try exact rfl));refine cok ?_) | (refine rgT ?_;intro K hK) | (refine dA ?_;intro K hK) | (with_reducible refine hK _ ?_;clear hK K) | (refine stq ?_;simp (disch:=(first | omega | (simp;omega))) only [go_sem,w64,List.length_map,h6t]) | refine as1 ?_ | fail)
  rw [dbOK_len (by omega)]
  (refine endA (r:=.d (.bool false)) ?_)
  exact ⟨rfl,rfl⟩
 ·have h6t:(6:Int)<(xs.length:Nat)↔False:=iff_of_false h6 id
  repeat' (first | refine sq ?_ | refine stp ?_ | refine blk_o (by decide) ?_ | (apply cb;(focus (simp (disch:=(first | omega | (simp;omega))) only [go_sem,w64,List.length_map,h6t];try exact rfl));refine cok ?_) | (refine rgT ?_;intro K hK) | (refine dA ?_;intro K hK) | (with_reducible refine hK _ ?_;clear hK K) | (refine stq ?_;simp (disch:=(first | omega | (simp;omega))) only [go_sem,w64,List.length_map,h6t]) | refine as1 ?_ | fail)
  refine awp_loopw (fun m s=>∃ k,m=xs.length - k∧k≤xs.length∧(∀ i,i<k→TblOK xs i)∧s=mkS [(1,.ptr 1 0),(2,.d (.bool false)),(10,.d (.sl 3 (xs.map tableDV))),(11,.d (.int (xs.length:Nat))),(12,.d (.int (k:Nat)))] [(1,[.d (.sl 3 (xs.map tableDV))])]) ?_ ?_
  ·refine ⟨_,_,?_,0,rfl,Nat.zero_le _,fun i hi=>absurd hi (Nat.not_lt_zero _),rfl⟩
   exact sleA
  ·rintro m s ⟨k,rfl,hk,hin,rfl⟩
   repeat' (first | refine sq ?_ | refine stp ?_ | refine blk_o (by decide) ?_ | (apply cb;(focus (simp (disch:=(first | omega | (simp;omega))) only [go_sem,w64];try exact rfl));refine cok ?_) | (refine rgT ?_;intro K hK) | (refine dA ?_;intro K hK) | (with_reducible refine hK _ ?_;clear hK K) | (refine stq ?_;simp (disch:=(first | omega | (simp;omega))) only [go_sem,w64]) | refine as1 ?_ | fail)
   refine awp_if (p:=(k:Int)<xs.length) (by simp (disch:=(first | omega | (simp;omega))) only [go_sem,w64]) ?_ ?_ <;> intro hc
   ·have hk2:k<xs.length:=by omega
    have g0:(xs.map tableDV).getD k (.bool false)=tableDV (tbx xs k):=getDT hk2
    cases h1:nameOK (tbx xs k).nm with
    | false =>
     repeat' (first | refine sq ?_ | refine stp ?_ | refine blk_o (by decide) ?_ | (apply cb;(focus (simp (disch:=(first | omega | (simp;omega))) only [go_sem,w64,g0,List.length_map];try exact rfl));refine cok ?_) | (refine rgT ?_;intro K hK) | (refine dA ?_;intro K hK) | (with_reducible refine hK _ ?_;clear hK K) | (refine stq ?_;simp (disch:=(first | omega | (simp;omega))) only [go_sem,w64,g0,List.length_map]) | refine as1 ?_ | fail)
     (first | refine callA (implNameA (tbx xs k).nm (hn.at hk2)) ?_ | refine callD (implNameA (tbx xs k).nm (hn.at hk2)) ?_ | refine callE (implNameA (tbx xs k).nm (hn.at hk2)) ?_ | refine callF (implNameA (tbx xs k).nm (hn.at hk2)) ?_ ?_)
     rw [h1]
     repeat' (first | refine sq ?_ | refine stp ?_ | refine blk_o (by decide) ?_ | (apply cb;(focus (simp (disch:=(first | omega | (simp;omega))) only [go_sem,w64,g0,List.length_map];try exact rfl));refine cok ?_) | (refine rgT ?_;intro K hK) | (refine dA ?_;intro K hK) | (with_reducible refine hK _ ?_;clear hK K) | (refine stq ?_;simp (disch:=(first | omega | (simp;omega))) only [go_sem,w64,g0,List.length_map]) | refine as1 ?_ | fail)
     rw [dbOK_at hk2 (fun g=>by have:=g.1;rw [h1] at this;cases this)]
     (refine endA (r:=.d (.bool false)) ?_)
     exact ⟨rfl,rfl⟩
    | true =>
     by_cases hk0:(0:Int)<(k:Nat)
     ·have hk0t:(0:Int)<(k:Nat)↔True:=iff_of_true hk0 trivial
      have hw:IntKind.i64.wrap ((k:Int) - 1)=((k - 1:Nat):Int):=by rw [w64 (by omega)];omega
      have g1:(xs.map tableDV).getD (k - 1) (.bool false)=tableDV (tbx xs (k - 1)):=getDT (by omega)
      have hq:((k - 1:Nat):Int)<(xs.length:Nat)↔True:=iff_of_true (by omega) trivial
      cases h3:strLt (tbx xs (k - 1)).nm (tbx xs k).nm with
      | false =>
       repeat' (first | refine sq ?_ | refine stp ?_ | refine blk_o (by decide) ?_ | (apply cb;(focus (simp (disch:=(first | omega | (simp;omega))) only [go_sem,w64,g0,hk0t,hw,g1,hq,List.length_map];try exact rfl));refine cok ?_) | (refine rgT ?_;intro K hK) | (refine dA ?_;intro K hK) | (with_reducible refine hK _ ?_;clear hK K) | (refine stq ?_;simp (disch:=(first | omega | (simp;omega))) only [go_sem,w64,g0,hk0t,hw,g1,hq,List.length_map]) | refine as1 ?_ | fail)
       (first | refine callA (implNameA (tbx xs k).nm (hn.at hk2)) ?_ | refine callD (implNameA (tbx xs k).nm (hn.at hk2)) ?_ | refine callE (implNameA (tbx xs k).nm (hn.at hk2)) ?_ | refine callF (implNameA (tbx xs k).nm (hn.at hk2)) ?_ ?_)
       rw [h1]
       repeat' (first | refine sq ?_ | refine stp ?_ | refine blk_o (by decide) ?_ | (apply cb;(focus (simp (disch:=(first | omega | (simp;omega))) only [go_sem,w64,g0,hk0t,hw,g1,hq,h3,List.length_map];try exact rfl));refine cok ?_) | (refine rgT ?_;intro K hK) | (refine dA ?_;intro K hK) | (with_reducible refine hK _ ?_;clear hK K) | (refine stq ?_;simp (disch:=(first | omega | (simp;omega))) only [go_sem,w64,g0,hk0t,hw,g1,hq,h3,List.length_map]) | refine as1 ?_ | fail)
       rw [dbOK_at hk2 (fun g=>by have:=g.2.1 (by omega);rw [h3] at this;cases this)]
       (refine endA (r:=.d (.bool false)) ?_)
       exact ⟨rfl,rfl⟩
      | true =>
       cases h2:validR (tbx xs k).ar (tbx xs k).rows with
       | false =>
        repeat' (first | refine sq ?_ | refine stp ?_ | refine blk_o (by decide) ?_ | (apply cb;(focus (simp (disch:=(first | omega | (simp;omega))) only [go_sem,w64,g0,hk0t,hw,g1,hq,h3,List.length_map];try exact rfl));refine cok ?_) | (refine rgT ?_;intro K hK) | (refine dA ?_;intro K hK) | (with_reducible refine hK _ ?_;clear hK K) | (refine stq ?_;simp (disch:=(first | omega | (simp;omega))) only [go_sem,w64,g0,hk0t,hw,g1,hq,h3,List.length_map]) | refine as1 ?_ | fail)
        (first | refine callA (implNameA (tbx xs k).nm (hn.at hk2)) ?_ | refine callD (implNameA (tbx xs k).nm (hn.at hk2)) ?_ | refine callE (implNameA (tbx xs k).nm (hn.at hk2)) ?_ | refine callF (implNameA (tbx xs k).nm (hn.at hk2)) ?_ ?_)
        rw [h1]
        repeat' (first | refine sq ?_ | refine stp ?_ | refine blk_o (by decide) ?_ | (apply cb;(focus (simp (disch:=(first | omega | (simp;omega))) only [go_sem,w64,g0,hk0t,hw,g1,hq,h3,List.length_map];try exact rfl));refine cok ?_) | (refine rgT ?_;intro K hK) | (refine dA ?_;intro K hK) | (with_reducible refine hK _ ?_;clear hK K) | (refine stq ?_;simp (disch:=(first | omega | (simp;omega))) only [go_sem,w64,g0,hk0t,hw,g1,hq,h3,List.length_map]) | refine as1 ?_ | fail)
        (first | refine callA (implValidRelA (tbx xs k).ar (tbx xs k).rows) ?_ | refine callD (implValidRelA (tbx xs k).ar (tbx xs k).rows) ?_ | refine callE (implValidRelA (tbx xs k).ar (tbx xs k).rows) ?_ | refine callF (implValidRelA (tbx xs k).ar (tbx xs k).rows) ?_ ?_)
        rw [h2]
        repeat' (first | refine sq ?_ | refine stp ?_ | refine blk_o (by decide) ?_ | (apply cb;(focus (simp (disch:=(first | omega | (simp;omega))) only [go_sem,w64,g0,hk0t,hw,g1,hq,h3,List.length_map];try exact rfl));refine cok ?_) | (refine rgT ?_;intro K hK) | (refine dA ?_;intro K hK) | (with_reducible refine hK _ ?_;clear hK K) | (refine stq ?_;simp (disch:=(first | omega | (simp;omega))) only [go_sem,w64,g0,hk0t,hw,g1,hq,h3,List.length_map]) | refine as1 ?_ | fail)
        rw [dbOK_at hk2 (fun g=>by have:=g.2.2.1;rw [h2] at this;cases this)]
        (refine endA (r:=.d (.bool false)) ?_)
        exact ⟨rfl,rfl⟩
       | true =>
        by_cases ha:(tbx xs k).ar<1
        ·have hat:(tbx xs k).ar<1↔True:=iff_of_true ha trivial
         repeat' (first | refine sq ?_ | refine stp ?_ | refine blk_o (by decide) ?_ | (apply cb;(focus (simp (disch:=(first | omega | (simp;omega))) only [go_sem,w64,g0,hk0t,hw,g1,hq,h3,hat,List.length_map];try exact rfl));refine cok ?_) | (refine rgT ?_;intro K hK) | (refine dA ?_;intro K hK) | (with_reducible refine hK _ ?_;clear hK K) | (refine stq ?_;simp (disch:=(first | omega | (simp;omega))) only [go_sem,w64,g0,hk0t,hw,g1,hq,h3,hat,List.length_map]) | refine as1 ?_ | fail)
         (first | refine callA (implNameA (tbx xs k).nm (hn.at hk2)) ?_ | refine callD (implNameA (tbx xs k).nm (hn.at hk2)) ?_ | refine callE (implNameA (tbx xs k).nm (hn.at hk2)) ?_ | refine callF (implNameA (tbx xs k).nm (hn.at hk2)) ?_ ?_)
         rw [h1]
         repeat' (first | refine sq ?_ | refine stp ?_ | refine blk_o (by decide) ?_ | (apply cb;(focus (simp (disch:=(first | omega | (simp;omega))) only [go_sem,w64,g0,hk0t,hw,g1,hq,h3,hat,List.length_map];try exact rfl));refine cok ?_) | (refine rgT ?_;intro K hK) | (refine dA ?_;intro K hK) | (with_reducible refine hK _ ?_;clear hK K) | (refine stq ?_;simp (disch:=(first | omega | (simp;omega))) only [go_sem,w64,g0,hk0t,hw,g1,hq,h3,hat,List.length_map]) | refine as1 ?_ | fail)
         (first | refine callA (implValidRelA (tbx xs k).ar (tbx xs k).rows) ?_ | refine callD (implValidRelA (tbx xs k).ar (tbx xs k).rows) ?_ | refine callE (implValidRelA (tbx xs k).ar (tbx xs k).rows) ?_ | refine callF (implValidRelA (tbx xs k).ar (tbx xs k).rows) ?_ ?_)
         rw [h2]
         repeat' (first | refine sq ?_ | refine stp ?_ | refine blk_o (by decide) ?_ | (apply cb;(focus (simp (disch:=(first | omega | (simp;omega))) only [go_sem,w64,g0,hk0t,hw,g1,hq,h3,hat,List.length_map];try exact rfl));refine cok ?_) | (refine rgT ?_;intro K hK) | (refine dA ?_;intro K hK) | (with_reducible refine hK _ ?_;clear hK K) | (refine stq ?_;simp (disch:=(first | omega | (simp;omega))) only [go_sem,w64,g0,hk0t,hw,g1,hq,h3,hat,List.length_map]) | refine as1 ?_ | fail)
         rw [dbOK_at hk2 (fun g=>by have:=g.2.2.2.1;omega)]
         (refine endA (r:=.d (.bool false)) ?_)
         exact ⟨rfl,rfl⟩
        ·have hat:(tbx xs k).ar<1↔False:=iff_of_false ha id
         by_cases hl:(16:Int)<((tbx xs k).rows.length:Nat)
         ·have hlt:(16:Int)<((tbx xs k).rows.length:Nat)↔True:=iff_of_true hl trivial
          repeat' (first | refine sq ?_ | refine stp ?_ | refine blk_o (by decide) ?_ | (apply cb;(focus (simp (disch:=(first | omega | (simp;omega))) only [go_sem,w64,g0,hk0t,hw,g1,hq,h3,hat,hlt,List.length_map];try exact rfl));refine cok ?_) | (refine rgT ?_;intro K hK) | (refine dA ?_;intro K hK) | (with_reducible refine hK _ ?_;clear hK K) | (refine stq ?_;simp (disch:=(first | omega | (simp;omega))) only [go_sem,w64,g0,hk0t,hw,g1,hq,h3,hat,hlt,List.length_map]) | refine as1 ?_ | fail)
          (first | refine callA (implNameA (tbx xs k).nm (hn.at hk2)) ?_ | refine callD (implNameA (tbx xs k).nm (hn.at hk2)) ?_ | refine callE (implNameA (tbx xs k).nm (hn.at hk2)) ?_ | refine callF (implNameA (tbx xs k).nm (hn.at hk2)) ?_ ?_)
          rw [h1]
          repeat' (first | refine sq ?_ | refine stp ?_ | refine blk_o (by decide) ?_ | (apply cb;(focus (simp (disch:=(first | omega | (simp;omega))) only [go_sem,w64,g0,hk0t,hw,g1,hq,h3,hat,hlt,List.length_map];try exact rfl));refine cok ?_) | (refine rgT ?_;intro K hK) | (refine dA ?_;intro K hK) | (with_reducible refine hK _ ?_;clear hK K) | (refine stq ?_;simp (disch:=(first | omega | (simp;omega))) only [go_sem,w64,g0,hk0t,hw,g1,hq,h3,hat,hlt,List.length_map]) | refine as1 ?_ | fail)
          (first | refine callA (implValidRelA (tbx xs k).ar (tbx xs k).rows) ?_ | refine callD (implValidRelA (tbx xs k).ar (tbx xs k).rows) ?_ | refine callE (implValidRelA (tbx xs k).ar (tbx xs k).rows) ?_ | refine callF (implValidRelA (tbx xs k).ar (tbx xs k).rows) ?_ ?_)
          rw [h2]
          repeat' (first | refine sq ?_ | refine stp ?_ | refine blk_o (by decide) ?_ | (apply cb;(focus (simp (disch:=(first | omega | (simp;omega))) only [go_sem,w64,g0,hk0t,hw,g1,hq,h3,hat,hlt,List.length_map];try exact rfl));refine cok ?_) | (refine rgT ?_;intro K hK) | (refine dA ?_;intro K hK) | (with_reducible refine hK _ ?_;clear hK K) | (refine stq ?_;simp (disch:=(first | omega | (simp;omega))) only [go_sem,w64,g0,hk0t,hw,g1,hq,h3,hat,hlt,List.length_map]) | refine as1 ?_ | fail)
          rw [dbOK_at hk2 (fun g=>by have:=g.2.2.2.2;omega)]
          (refine endA (r:=.d (.bool false)) ?_)
          exact ⟨rfl,rfl⟩
         ·have hlt:(16:Int)<((tbx xs k).rows.length:Nat)↔False:=iff_of_false hl id
          repeat' (first | refine sq ?_ | refine stp ?_ | refine blk_o (by decide) ?_ | (apply cb;(focus (simp (disch:=(first | omega | (simp;omega))) only [go_sem,w64,g0,hk0t,hw,g1,hq,h3,hat,hlt,List.length_map];try exact rfl));refine cok ?_) | (refine rgT ?_;intro K hK) | (refine dA ?_;intro K hK) | (with_reducible refine hK _ ?_;clear hK K) | (refine stq ?_;simp (disch:=(first | omega | (simp;omega))) only [go_sem,w64,g0,hk0t,hw,g1,hq,h3,hat,hlt,List.length_map]) | refine as1 ?_ | fail)
          (first | refine callA (implNameA (tbx xs k).nm (hn.at hk2)) ?_ | refine callD (implNameA (tbx xs k).nm (hn.at hk2)) ?_ | refine callE (implNameA (tbx xs k).nm (hn.at hk2)) ?_ | refine callF (implNameA (tbx xs k).nm (hn.at hk2)) ?_ ?_)
          rw [h1]
          repeat' (first | refine sq ?_ | refine stp ?_ | refine blk_o (by decide) ?_ | (apply cb;(focus (simp (disch:=(first | omega | (simp;omega))) only [go_sem,w64,g0,hk0t,hw,g1,hq,h3,hat,hlt,List.length_map];try exact rfl));refine cok ?_) | (refine rgT ?_;intro K hK) | (refine dA ?_;intro K hK) | (with_reducible refine hK _ ?_;clear hK K) | (refine stq ?_;simp (disch:=(first | omega | (simp;omega))) only [go_sem,w64,g0,hk0t,hw,g1,hq,h3,hat,hlt,List.length_map]) | refine as1 ?_ | fail)
          (first | refine callA (implValidRelA (tbx xs k).ar (tbx xs k).rows) ?_ | refine callD (implValidRelA (tbx xs k).ar (tbx xs k).rows) ?_ | refine callE (implValidRelA (tbx xs k).ar (tbx xs k).rows) ?_ | refine callF (implValidRelA (tbx xs k).ar (tbx xs k).rows) ?_ ?_)
          rw [h2]
          repeat' (first | refine sq ?_ | refine stp ?_ | refine blk_o (by decide) ?_ | (apply cb;(focus (simp (disch:=(first | omega | (simp;omega))) only [go_sem,w64,g0,hk0t,hw,g1,hq,h3,hat,hlt,List.length_map];try exact rfl));refine cok ?_) | (refine rgT ?_;intro K hK) | (refine dA ?_;intro K hK) | (with_reducible refine hK _ ?_;clear hK K) | (refine stq ?_;simp (disch:=(first | omega | (simp;omega))) only [go_sem,w64,g0,hk0t,hw,g1,hq,h3,hat,hlt,List.length_map]) | refine as1 ?_ | fail)
          refine ⟨xs.length - (k+1),_,by omega,?_,k+1,rfl,by omega,fun i hi=>?_,rfl⟩
          ·exact sleA
          ·by_cases e:i=k
           ·subst e;exact ⟨h1,fun _=>h3,h2,by omega,by omega⟩
           ·exact hin i (by omega)
     ·have hk0t:(0:Int)<(k:Nat)↔False:=iff_of_false hk0 id
      cases h2:validR (tbx xs k).ar (tbx xs k).rows with
      | false =>
       repeat' (first | refine sq ?_ | refine stp ?_ | refine blk_o (by decide) ?_ | (apply cb;(focus (simp (disch:=(first | omega | (simp;omega))) only [go_sem,w64,g0,hk0t,List.length_map];try exact rfl));refine cok ?_) | (refine rgT ?_;intro K hK) | (refine dA ?_;intro K hK) | (with_reducible refine hK _ ?_;clear hK K) | (refine stq ?_;simp (disch:=(first | omega | (simp;omega))) only [go_sem,w64,g0,hk0t,List.length_map]) | refine as1 ?_ | fail)
       (first | refine callA (implNameA (tbx xs k).nm (hn.at hk2)) ?_ | refine callD (implNameA (tbx xs k).nm (hn.at hk2)) ?_ | refine callE (implNameA (tbx xs k).nm (hn.at hk2)) ?_ | refine callF (implNameA (tbx xs k).nm (hn.at hk2)) ?_ ?_)
       rw [h1]
       repeat' (first | refine sq ?_ | refine stp ?_ | refine blk_o (by decide) ?_ | (apply cb;(focus (simp (disch:=(first | omega | (simp;omega))) only [go_sem,w64,g0,hk0t,List.length_map];try exact rfl));refine cok ?_) | (refine rgT ?_;intro K hK) | (refine dA ?_;intro K hK) | (with_reducible refine hK _ ?_;clear hK K) | (refine stq ?_;simp (disch:=(first | omega | (simp;omega))) only [go_sem,w64,g0,hk0t,List.length_map]) | refine as1 ?_ | fail)
       (first | refine callA (implValidRelA (tbx xs k).ar (tbx xs k).rows) ?_ | refine callD (implValidRelA (tbx xs k).ar (tbx xs k).rows) ?_ | refine callE (implValidRelA (tbx xs k).ar (tbx xs k).rows) ?_ | refine callF (implValidRelA (tbx xs k).ar (tbx xs k).rows) ?_ ?_)
       rw [h2]
       repeat' (first | refine sq ?_ | refine stp ?_ | refine blk_o (by decide) ?_ | (apply cb;(focus (simp (disch:=(first | omega | (simp;omega))) only [go_sem,w64,g0,hk0t,List.length_map];try exact rfl));refine cok ?_) | (refine rgT ?_;intro K hK) | (refine dA ?_;intro K hK) | (with_reducible refine hK _ ?_;clear hK K) | (refine stq ?_;simp (disch:=(first | omega | (simp;omega))) only [go_sem,w64,g0,hk0t,List.length_map]) | refine as1 ?_ | fail)
       rw [dbOK_at hk2 (fun g=>by have:=g.2.2.1;rw [h2] at this;cases this)]
       (refine endA (r:=.d (.bool false)) ?_)
       exact ⟨rfl,rfl⟩
      | true =>
       by_cases ha:(tbx xs k).ar<1
       ·have hat:(tbx xs k).ar<1↔True:=iff_of_true ha trivial
        repeat' (first | refine sq ?_ | refine stp ?_ | refine blk_o (by decide) ?_ | (apply cb;(focus (simp (disch:=(first | omega | (simp;omega))) only [go_sem,w64,g0,hk0t,hat,List.length_map];try exact rfl));refine cok ?_) | (refine rgT ?_;intro K hK) | (refine dA ?_;intro K hK) | (with_reducible refine hK _ ?_;clear hK K) | (refine stq ?_;simp (disch:=(first | omega | (simp;omega))) only [go_sem,w64,g0,hk0t,hat,List.length_map]) | refine as1 ?_ | fail)
        (first | refine callA (implNameA (tbx xs k).nm (hn.at hk2)) ?_ | refine callD (implNameA (tbx xs k).nm (hn.at hk2)) ?_ | refine callE (implNameA (tbx xs k).nm (hn.at hk2)) ?_ | refine callF (implNameA (tbx xs k).nm (hn.at hk2)) ?_ ?_)
        rw [h1]
        repeat' (first | refine sq ?_ | refine stp ?_ | refine blk_o (by decide) ?_ | (apply cb;(focus (simp (disch:=(first | omega | (simp;omega))) only [go_sem,w64,g0,hk0t,hat,List.length_map];try exact rfl));refine cok ?_) | (refine rgT ?_;intro K hK) | (refine dA ?_;intro K hK) | (with_reducible refine hK _ ?_;clear hK K) | (refine stq ?_;simp (disch:=(first | omega | (simp;omega))) only [go_sem,w64,g0,hk0t,hat,List.length_map]) | refine as1 ?_ | fail)
        (first | refine callA (implValidRelA (tbx xs k).ar (tbx xs k).rows) ?_ | refine callD (implValidRelA (tbx xs k).ar (tbx xs k).rows) ?_ | refine callE (implValidRelA (tbx xs k).ar (tbx xs k).rows) ?_ | refine callF (implValidRelA (tbx xs k).ar (tbx xs k).rows) ?_ ?_)
        rw [h2]
        repeat' (first | refine sq ?_ | refine stp ?_ | refine blk_o (by decide) ?_ | (apply cb;(focus (simp (disch:=(first | omega | (simp;omega))) only [go_sem,w64,g0,hk0t,hat,List.length_map];try exact rfl));refine cok ?_) | (refine rgT ?_;intro K hK) | (refine dA ?_;intro K hK) | (with_reducible refine hK _ ?_;clear hK K) | (refine stq ?_;simp (disch:=(first | omega | (simp;omega))) only [go_sem,w64,g0,hk0t,hat,List.length_map]) | refine as1 ?_ | fail)
        rw [dbOK_at hk2 (fun g=>by have:=g.2.2.2.1;omega)]
        (refine endA (r:=.d (.bool false)) ?_)
        exact ⟨rfl,rfl⟩
       ·have hat:(tbx xs k).ar<1↔False:=iff_of_false ha id
        by_cases hl:(16:Int)<((tbx xs k).rows.length:Nat)
        ·have hlt:(16:Int)<((tbx xs k).rows.length:Nat)↔True:=iff_of_true hl trivial
         repeat' (first | refine sq ?_ | refine stp ?_ | refine blk_o (by decide) ?_ | (apply cb;(focus (simp (disch:=(first | omega | (simp;omega))) only [go_sem,w64,g0,hk0t,hat,hlt,List.length_map];try exact rfl));refine cok ?_) | (refine rgT ?_;intro K hK) | (refine dA ?_;intro K hK) | (with_reducible refine hK _ ?_;clear hK K) | (refine stq ?_;simp (disch:=(first | omega | (simp;omega))) only [go_sem,w64,g0,hk0t,hat,hlt,List.length_map]) | refine as1 ?_ | fail)
         (first | refine callA (implNameA (tbx xs k).nm (hn.at hk2)) ?_ | refine callD (implNameA (tbx xs k).nm (hn.at hk2)) ?_ | refine callE (implNameA (tbx xs k).nm (hn.at hk2)) ?_ | refine callF (implNameA (tbx xs k).nm (hn.at hk2)) ?_ ?_)
         rw [h1]
         repeat' (first | refine sq ?_ | refine stp ?_ | refine blk_o (by decide) ?_ | (apply cb;(focus (simp (disch:=(first | omega | (simp;omega))) only [go_sem,w64,g0,hk0t,hat,hlt,List.length_map];try exact rfl));refine cok ?_) | (refine rgT ?_;intro K hK) | (refine dA ?_;intro K hK) | (with_reducible refine hK _ ?_;clear hK K) | (refine stq ?_;simp (disch:=(first | omega | (simp;omega))) only [go_sem,w64,g0,hk0t,hat,hlt,List.length_map]) | refine as1 ?_ | fail)
         (first | refine callA (implValidRelA (tbx xs k).ar (tbx xs k).rows) ?_ | refine callD (implValidRelA (tbx xs k).ar (tbx xs k).rows) ?_ | refine callE (implValidRelA (tbx xs k).ar (tbx xs k).rows) ?_ | refine callF (implValidRelA (tbx xs k).ar (tbx xs k).rows) ?_ ?_)
         rw [h2]
         repeat' (first | refine sq ?_ | refine stp ?_ | refine blk_o (by decide) ?_ | (apply cb;(focus (simp (disch:=(first | omega | (simp;omega))) only [go_sem,w64,g0,hk0t,hat,hlt,List.length_map];try exact rfl));refine cok ?_) | (refine rgT ?_;intro K hK) | (refine dA ?_;intro K hK) | (with_reducible refine hK _ ?_;clear hK K) | (refine stq ?_;simp (disch:=(first | omega | (simp;omega))) only [go_sem,w64,g0,hk0t,hat,hlt,List.length_map]) | refine as1 ?_ | fail)
         rw [dbOK_at hk2 (fun g=>by have:=g.2.2.2.2;omega)]
         (refine endA (r:=.d (.bool false)) ?_)
         exact ⟨rfl,rfl⟩
        ·have hlt:(16:Int)<((tbx xs k).rows.length:Nat)↔False:=iff_of_false hl id
         repeat' (first | refine sq ?_ | refine stp ?_ | refine blk_o (by decide) ?_ | (apply cb;(focus (simp (disch:=(first | omega | (simp;omega))) only [go_sem,w64,g0,hk0t,hat,hlt,List.length_map];try exact rfl));refine cok ?_) | (refine rgT ?_;intro K hK) | (refine dA ?_;intro K hK) | (with_reducible refine hK _ ?_;clear hK K) | (refine stq ?_;simp (disch:=(first | omega | (simp;omega))) only [go_sem,w64,g0,hk0t,hat,hlt,List.length_map]) | refine as1 ?_ | fail)
         (first | refine callA (implNameA (tbx xs k).nm (hn.at hk2)) ?_ | refine callD (implNameA (tbx xs k).nm (hn.at hk2)) ?_ | refine callE (implNameA (tbx xs k).nm (hn.at hk2)) ?_ | refine callF (implNameA (tbx xs k).nm (hn.at hk2)) ?_ ?_)
         rw [h1]
         repeat' (first | refine sq ?_ | refine stp ?_ | refine blk_o (by decide) ?_ | (apply cb;(focus (simp (disch:=(first | omega | (simp;omega))) only [go_sem,w64,g0,hk0t,hat,hlt,List.length_map];try exact rfl));refine cok ?_) | (refine rgT ?_;intro K hK) | (refine dA ?_;intro K hK) | (with_reducible refine hK _ ?_;clear hK K) | (refine stq ?_;simp (disch:=(first | omega | (simp;omega))) only [go_sem,w64,g0,hk0t,hat,hlt,List.length_map]) | refine as1 ?_ | fail)
         (first | refine callA (implValidRelA (tbx xs k).ar (tbx xs k).rows) ?_ | refine callD (implValidRelA (tbx xs k).ar (tbx xs k).rows) ?_ | refine callE (implValidRelA (tbx xs k).ar (tbx xs k).rows) ?_ | refine callF (implValidRelA (tbx xs k).ar (tbx xs k).rows) ?_ ?_)
         rw [h2]
         repeat' (first | refine sq ?_ | refine stp ?_ | refine blk_o (by decide) ?_ | (apply cb;(focus (simp (disch:=(first | omega | (simp;omega))) only [go_sem,w64,g0,hk0t,hat,hlt,List.length_map];try exact rfl));refine cok ?_) | (refine rgT ?_;intro K hK) | (refine dA ?_;intro K hK) | (with_reducible refine hK _ ?_;clear hK K) | (refine stq ?_;simp (disch:=(first | omega | (simp;omega))) only [go_sem,w64,g0,hk0t,hat,hlt,List.length_map]) | refine as1 ?_ | fail)
         refine ⟨xs.length - (k+1),_,by omega,?_,k+1,rfl,by omega,fun i hi=>?_,rfl⟩
         ·exact sleA
         ·by_cases e:i=k
          ·subst e;exact ⟨h1,fun h=>absurd h (by omega),h2,by omega,by omega⟩
          ·exact hin i (by omega)
   ·obtain rfl:k=xs.length:=by omega
    repeat' (first | refine sq ?_ | refine stp ?_ | refine blk_o (by decide) ?_ | (apply cb;(focus (simp (disch:=(first | omega | (simp;omega))) only [go_sem,w64];try exact rfl));refine cok ?_) | (refine rgT ?_;intro K hK) | (refine dA ?_;intro K hK) | (with_reducible refine hK _ ?_;clear hK K) | (refine stq ?_;simp (disch:=(first | omega | (simp;omega))) only [go_sem,w64]) | refine as1 ?_ | fail)
    rw [dbOK_yes (by omega) hin]
    (refine endA (r:=.d (.bool true)) ?_)
    exact ⟨rfl,rfl⟩
set_option maxHeartbeats 4000000 in
theorem specDbA (xs:List TableD) (hn:NmT xs) (hlen:xs.length≤1048576):AFn 35 [.d (dbD xs)] [] (fun r os=>r=.d (.bool (dbOK xs))∧os=[]):=by
 refine afn_of (rv:=[.tmp 2]) tyT_ok Try.func35 rfl (by decide +kernel) Try.ntmps35 rfl (by simp) ?_
 repeat' (first | refine sq ?_ | refine stp ?_ | refine blk_o (by decide) ?_ | (apply cb;(focus (simp (disch:=(first | omega | (simp;omega))) only [go_sem,w64,List.length_map];try exact rfl));refine cok ?_) | (refine rgT ?_;intro K hK) | (refine dA ?_;intro K hK) | (with_reducible refine hK _ ?_;clear hK K) | (refine stq ?_;simp (disch:=(first | omega | (simp;omega))) only [go_sem,w64,List.length_map]) | refine as1 ?_ | fail)
 refine awp_loopw (fun m s=>∃ k,m=xs.length - k∧k≤xs.length∧(∀ i,i<k→TblOK xs i)∧s=mkS [(1,.ptr 1 0),(2,.d (.bool false)),(3,.d (.int (k:Nat)))] [(1,[.d (.sl 3 (xs.map tableDV))])]) ?_ ?_
 ·refine ⟨_,_,?_,0,rfl,Nat.zero_le _,fun i hi=>absurd hi (Nat.not_lt_zero _),rfl⟩
  exact sleA
 ·rintro m s ⟨k,rfl,hk,hin,rfl⟩
  repeat' (first | refine sq ?_ | refine stp ?_ | refine blk_o (by decide) ?_ | (apply cb;(focus (simp (disch:=(first | omega | (simp;omega))) only [go_sem,w64,List.length_map];try exact rfl));refine cok ?_) | (refine rgT ?_;intro K hK) | (refine dA ?_;intro K hK) | (with_reducible refine hK _ ?_;clear hK K) | (refine stq ?_;simp (disch:=(first | omega | (simp;omega))) only [go_sem,w64,List.length_map]) | refine as1 ?_ | fail)
  refine awp_if (p:=(k:Int)<xs.length) (by simp (disch:=(first | omega | (simp;omega))) only [go_sem,w64]) ?_ ?_ <;> intro hc
  ·have hk2:k<xs.length:=by omega
   have g0:(xs.map tableDV).getD k (.bool false)=tableDV (tbx xs k):=getDT hk2
   cases h1:nameOK (tbx xs k).nm with
   | false =>
    repeat' (first | refine sq ?_ | refine stp ?_ | refine blk_o (by decide) ?_ | (apply cb;(focus (simp (disch:=(first | omega | (simp;omega))) only [go_sem,w64,g0,List.length_map];try exact rfl));refine cok ?_) | (refine rgT ?_;intro K hK) | (refine dA ?_;intro K hK) | (with_reducible refine hK _ ?_;clear hK K) | (refine stq ?_;simp (disch:=(first | omega | (simp;omega))) only [go_sem,w64,g0,List.length_map]) | refine as1 ?_ | fail)
    (first | refine callA (specNameA (tbx xs k).nm (hn.at hk2)) ?_ | refine callD (specNameA (tbx xs k).nm (hn.at hk2)) ?_ | refine callE (specNameA (tbx xs k).nm (hn.at hk2)) ?_ | refine callF (specNameA (tbx xs k).nm (hn.at hk2)) ?_ ?_)
    rw [h1]
    repeat' (first | refine sq ?_ | refine stp ?_ | refine blk_o (by decide) ?_ | (apply cb;(focus (simp (disch:=(first | omega | (simp;omega))) only [go_sem,w64,g0,List.length_map];try exact rfl));refine cok ?_) | (refine rgT ?_;intro K hK) | (refine dA ?_;intro K hK) | (with_reducible refine hK _ ?_;clear hK K) | (refine stq ?_;simp (disch:=(first | omega | (simp;omega))) only [go_sem,w64,g0,List.length_map]) | refine as1 ?_ | fail)
    rw [dbOK_at hk2 (fun g=>by have:=g.1;rw [h1] at this;cases this)]
    (refine endA (r:=.d (.bool false)) ?_)
    exact ⟨rfl,rfl⟩
   | true =>
    by_cases hk0:(0:Int)<(k:Nat)
    ·have hk0t:(0:Int)<(k:Nat)↔True:=iff_of_true hk0 trivial
     have hw:IntKind.i64.wrap ((k:Int) - 1)=((k - 1:Nat):Int):=by rw [w64 (by omega)];omega
     have g1:(xs.map tableDV).getD (k - 1) (.bool false)=tableDV (tbx xs (k - 1)):=getDT (by omega)
     have hq:((k - 1:Nat):Int)<(xs.length:Nat)↔True:=iff_of_true (by omega) trivial
     cases h3:strLt (tbx xs (k - 1)).nm (tbx xs k).nm with
     | false =>
      repeat' (first | refine sq ?_ | refine stp ?_ | refine blk_o (by decide) ?_ | (apply cb;(focus (simp (disch:=(first | omega | (simp;omega))) only [go_sem,w64,g0,hk0t,hw,g1,hq,List.length_map];try exact rfl));refine cok ?_) | (refine rgT ?_;intro K hK) | (refine dA ?_;intro K hK) | (with_reducible refine hK _ ?_;clear hK K) | (refine stq ?_;simp (disch:=(first | omega | (simp;omega))) only [go_sem,w64,g0,hk0t,hw,g1,hq,List.length_map]) | refine as1 ?_ | fail)
      (first | refine callA (specNameA (tbx xs k).nm (hn.at hk2)) ?_ | refine callD (specNameA (tbx xs k).nm (hn.at hk2)) ?_ | refine callE (specNameA (tbx xs k).nm (hn.at hk2)) ?_ | refine callF (specNameA (tbx xs k).nm (hn.at hk2)) ?_ ?_)
      rw [h1]
      repeat' (first | refine sq ?_ | refine stp ?_ | refine blk_o (by decide) ?_ | (apply cb;(focus (simp (disch:=(first | omega | (simp;omega))) only [go_sem,w64,g0,hk0t,hw,g1,hq,h3,List.length_map];try exact rfl));refine cok ?_) | (refine rgT ?_;intro K hK) | (refine dA ?_;intro K hK) | (with_reducible refine hK _ ?_;clear hK K) | (refine stq ?_;simp (disch:=(first | omega | (simp;omega))) only [go_sem,w64,g0,hk0t,hw,g1,hq,h3,List.length_map]) | refine as1 ?_ | fail)
      rw [dbOK_at hk2 (fun g=>by have:=g.2.1 (by omega);rw [h3] at this;cases this)]
      (refine endA (r:=.d (.bool false)) ?_)
      exact ⟨rfl,rfl⟩
     | true =>
      cases h2:validR (tbx xs k).ar (tbx xs k).rows with
      | false =>
       repeat' (first | refine sq ?_ | refine stp ?_ | refine blk_o (by decide) ?_ | (apply cb;(focus (simp (disch:=(first | omega | (simp;omega))) only [go_sem,w64,g0,hk0t,hw,g1,hq,h3,List.length_map];try exact rfl));refine cok ?_) | (refine rgT ?_;intro K hK) | (refine dA ?_;intro K hK) | (with_reducible refine hK _ ?_;clear hK K) | (refine stq ?_;simp (disch:=(first | omega | (simp;omega))) only [go_sem,w64,g0,hk0t,hw,g1,hq,h3,List.length_map]) | refine as1 ?_ | fail)
       (first | refine callA (specNameA (tbx xs k).nm (hn.at hk2)) ?_ | refine callD (specNameA (tbx xs k).nm (hn.at hk2)) ?_ | refine callE (specNameA (tbx xs k).nm (hn.at hk2)) ?_ | refine callF (specNameA (tbx xs k).nm (hn.at hk2)) ?_ ?_)
       rw [h1]
       repeat' (first | refine sq ?_ | refine stp ?_ | refine blk_o (by decide) ?_ | (apply cb;(focus (simp (disch:=(first | omega | (simp;omega))) only [go_sem,w64,g0,hk0t,hw,g1,hq,h3,List.length_map];try exact rfl));refine cok ?_) | (refine rgT ?_;intro K hK) | (refine dA ?_;intro K hK) | (with_reducible refine hK _ ?_;clear hK K) | (refine stq ?_;simp (disch:=(first | omega | (simp;omega))) only [go_sem,w64,g0,hk0t,hw,g1,hq,h3,List.length_map]) | refine as1 ?_ | fail)
       (first | refine callA (specValidRelA (tbx xs k).ar (tbx xs k).rows) ?_ | refine callD (specValidRelA (tbx xs k).ar (tbx xs k).rows) ?_ | refine callE (specValidRelA (tbx xs k).ar (tbx xs k).rows) ?_ | refine callF (specValidRelA (tbx xs k).ar (tbx xs k).rows) ?_ ?_)
       rw [h2]
       repeat' (first | refine sq ?_ | refine stp ?_ | refine blk_o (by decide) ?_ | (apply cb;(focus (simp (disch:=(first | omega | (simp;omega))) only [go_sem,w64,g0,hk0t,hw,g1,hq,h3,List.length_map];try exact rfl));refine cok ?_) | (refine rgT ?_;intro K hK) | (refine dA ?_;intro K hK) | (with_reducible refine hK _ ?_;clear hK K) | (refine stq ?_;simp (disch:=(first | omega | (simp;omega))) only [go_sem,w64,g0,hk0t,hw,g1,hq,h3,List.length_map]) | refine as1 ?_ | fail)
       rw [dbOK_at hk2 (fun g=>by have:=g.2.2.1;rw [h2] at this;cases this)]
       (refine endA (r:=.d (.bool false)) ?_)
       exact ⟨rfl,rfl⟩
      | true =>
       by_cases hl:(16:Int)<((tbx xs k).rows.length:Nat)
       ·have hlt:(16:Int)<((tbx xs k).rows.length:Nat)↔True:=iff_of_true hl trivial
        repeat' (first | refine sq ?_ | refine stp ?_ | refine blk_o (by decide) ?_ | (apply cb;(focus (simp (disch:=(first | omega | (simp;omega))) only [go_sem,w64,g0,hk0t,hw,g1,hq,h3,hlt,List.length_map];try exact rfl));refine cok ?_) | (refine rgT ?_;intro K hK) | (refine dA ?_;intro K hK) | (with_reducible refine hK _ ?_;clear hK K) | (refine stq ?_;simp (disch:=(first | omega | (simp;omega))) only [go_sem,w64,g0,hk0t,hw,g1,hq,h3,hlt,List.length_map]) | refine as1 ?_ | fail)
        (first | refine callA (specNameA (tbx xs k).nm (hn.at hk2)) ?_ | refine callD (specNameA (tbx xs k).nm (hn.at hk2)) ?_ | refine callE (specNameA (tbx xs k).nm (hn.at hk2)) ?_ | refine callF (specNameA (tbx xs k).nm (hn.at hk2)) ?_ ?_)
        rw [h1]
        repeat' (first | refine sq ?_ | refine stp ?_ | refine blk_o (by decide) ?_ | (apply cb;(focus (simp (disch:=(first | omega | (simp;omega))) only [go_sem,w64,g0,hk0t,hw,g1,hq,h3,hlt,List.length_map];try exact rfl));refine cok ?_) | (refine rgT ?_;intro K hK) | (refine dA ?_;intro K hK) | (with_reducible refine hK _ ?_;clear hK K) | (refine stq ?_;simp (disch:=(first | omega | (simp;omega))) only [go_sem,w64,g0,hk0t,hw,g1,hq,h3,hlt,List.length_map]) | refine as1 ?_ | fail)
        (first | refine callA (specValidRelA (tbx xs k).ar (tbx xs k).rows) ?_ | refine callD (specValidRelA (tbx xs k).ar (tbx xs k).rows) ?_ | refine callE (specValidRelA (tbx xs k).ar (tbx xs k).rows) ?_ | refine callF (specValidRelA (tbx xs k).ar (tbx xs k).rows) ?_ ?_)
        rw [h2]
        repeat' (first | refine sq ?_ | refine stp ?_ | refine blk_o (by decide) ?_ | (apply cb;(focus (simp (disch:=(first | omega | (simp;omega))) only [go_sem,w64,g0,hk0t,hw,g1,hq,h3,hlt,List.length_map];try exact rfl));refine cok ?_) | (refine rgT ?_;intro K hK) | (refine dA ?_;intro K hK) | (with_reducible refine hK _ ?_;clear hK K) | (refine stq ?_;simp (disch:=(first | omega | (simp;omega))) only [go_sem,w64,g0,hk0t,hw,g1,hq,h3,hlt,List.length_map]) | refine as1 ?_ | fail)
        rw [dbOK_at hk2 (fun g=>by have:=g.2.2.2.2;omega)]
        (refine endA (r:=.d (.bool false)) ?_)
        exact ⟨rfl,rfl⟩
       ·have hlt:(16:Int)<((tbx xs k).rows.length:Nat)↔False:=iff_of_false hl id
        by_cases ha:(tbx xs k).ar<1
        ·have hat:(tbx xs k).ar<1↔True:=iff_of_true ha trivial
         repeat' (first | refine sq ?_ | refine stp ?_ | refine blk_o (by decide) ?_ | (apply cb;(focus (simp (disch:=(first | omega | (simp;omega))) only [go_sem,w64,g0,hk0t,hw,g1,hq,h3,hlt,hat,List.length_map];try exact rfl));refine cok ?_) | (refine rgT ?_;intro K hK) | (refine dA ?_;intro K hK) | (with_reducible refine hK _ ?_;clear hK K) | (refine stq ?_;simp (disch:=(first | omega | (simp;omega))) only [go_sem,w64,g0,hk0t,hw,g1,hq,h3,hlt,hat,List.length_map]) | refine as1 ?_ | fail)
         (first | refine callA (specNameA (tbx xs k).nm (hn.at hk2)) ?_ | refine callD (specNameA (tbx xs k).nm (hn.at hk2)) ?_ | refine callE (specNameA (tbx xs k).nm (hn.at hk2)) ?_ | refine callF (specNameA (tbx xs k).nm (hn.at hk2)) ?_ ?_)
         rw [h1]
         repeat' (first | refine sq ?_ | refine stp ?_ | refine blk_o (by decide) ?_ | (apply cb;(focus (simp (disch:=(first | omega | (simp;omega))) only [go_sem,w64,g0,hk0t,hw,g1,hq,h3,hlt,hat,List.length_map];try exact rfl));refine cok ?_) | (refine rgT ?_;intro K hK) | (refine dA ?_;intro K hK) | (with_reducible refine hK _ ?_;clear hK K) | (refine stq ?_;simp (disch:=(first | omega | (simp;omega))) only [go_sem,w64,g0,hk0t,hw,g1,hq,h3,hlt,hat,List.length_map]) | refine as1 ?_ | fail)
         (first | refine callA (specValidRelA (tbx xs k).ar (tbx xs k).rows) ?_ | refine callD (specValidRelA (tbx xs k).ar (tbx xs k).rows) ?_ | refine callE (specValidRelA (tbx xs k).ar (tbx xs k).rows) ?_ | refine callF (specValidRelA (tbx xs k).ar (tbx xs k).rows) ?_ ?_)
         rw [h2]
         repeat' (first | refine sq ?_ | refine stp ?_ | refine blk_o (by decide) ?_ | (apply cb;(focus (simp (disch:=(first | omega | (simp;omega))) only [go_sem,w64,g0,hk0t,hw,g1,hq,h3,hlt,hat,List.length_map];try exact rfl));refine cok ?_) | (refine rgT ?_;intro K hK) | (refine dA ?_;intro K hK) | (with_reducible refine hK _ ?_;clear hK K) | (refine stq ?_;simp (disch:=(first | omega | (simp;omega))) only [go_sem,w64,g0,hk0t,hw,g1,hq,h3,hlt,hat,List.length_map]) | refine as1 ?_ | fail)
         rw [dbOK_at hk2 (fun g=>by have:=g.2.2.2.1;omega)]
         (refine endA (r:=.d (.bool false)) ?_)
         exact ⟨rfl,rfl⟩
        ·have hat:(tbx xs k).ar<1↔False:=iff_of_false ha id
         repeat' (first | refine sq ?_ | refine stp ?_ | refine blk_o (by decide) ?_ | (apply cb;(focus (simp (disch:=(first | omega | (simp;omega))) only [go_sem,w64,g0,hk0t,hw,g1,hq,h3,hlt,hat,List.length_map];try exact rfl));refine cok ?_) | (refine rgT ?_;intro K hK) | (refine dA ?_;intro K hK) | (with_reducible refine hK _ ?_;clear hK K) | (refine stq ?_;simp (disch:=(first | omega | (simp;omega))) only [go_sem,w64,g0,hk0t,hw,g1,hq,h3,hlt,hat,List.length_map]) | refine as1 ?_ | fail)
         (first | refine callA (specNameA (tbx xs k).nm (hn.at hk2)) ?_ | refine callD (specNameA (tbx xs k).nm (hn.at hk2)) ?_ | refine callE (specNameA (tbx xs k).nm (hn.at hk2)) ?_ | refine callF (specNameA (tbx xs k).nm (hn.at hk2)) ?_ ?_)
         rw [h1]
         repeat' (first | refine sq ?_ | refine stp ?_ | refine blk_o (by decide) ?_ | (apply cb;(focus (simp (disch:=(first | omega | (simp;omega))) only [go_sem,w64,g0,hk0t,hw,g1,hq,h3,hlt,hat,List.length_map];try exact rfl));refine cok ?_) | (refine rgT ?_;intro K hK) | (refine dA ?_;intro K hK) | (with_reducible refine hK _ ?_;clear hK K) | (refine stq ?_;simp (disch:=(first | omega | (simp;omega))) only [go_sem,w64,g0,hk0t,hw,g1,hq,h3,hlt,hat,List.length_map]) | refine as1 ?_ | fail)
         (first | refine callA (specValidRelA (tbx xs k).ar (tbx xs k).rows) ?_ | refine callD (specValidRelA (tbx xs k).ar (tbx xs k).rows) ?_ | refine callE (specValidRelA (tbx xs k).ar (tbx xs k).rows) ?_ | refine callF (specValidRelA (tbx xs k).ar (tbx xs k).rows) ?_ ?_)
         rw [h2]
         repeat' (first | refine sq ?_ | refine stp ?_ | refine blk_o (by decide) ?_ | (apply cb;(focus (simp (disch:=(first | omega | (simp;omega))) only [go_sem,w64,g0,hk0t,hw,g1,hq,h3,hlt,hat,List.length_map];try exact rfl));refine cok ?_) | (refine rgT ?_;intro K hK) | (refine dA ?_;intro K hK) | (with_reducible refine hK _ ?_;clear hK K) | (refine stq ?_;simp (disch:=(first | omega | (simp;omega))) only [go_sem,w64,g0,hk0t,hw,g1,hq,h3,hlt,hat,List.length_map]) | refine as1 ?_ | fail)
         refine ⟨xs.length - (k+1),_,by omega,?_,k+1,rfl,by omega,fun i hi=>?_,rfl⟩
         ·exact sleA
         ·by_cases e:i=k
          ·subst e;exact ⟨h1,fun _=>h3,h2,by omega,by omega⟩
          ·exact hin i (by omega)
    ·have hk0t:(0:Int)<(k:Nat)↔False:=iff_of_false hk0 id
     cases h2:validR (tbx xs k).ar (tbx xs k).rows with
     | false =>
      repeat' (first | refine sq ?_ | refine stp ?_ | refine blk_o (by decide) ?_ | (apply cb;(focus (simp (disch:=(first | omega | (simp;omega))) only [go_sem,w64,g0,hk0t,List.length_map];try exact rfl));refine cok ?_) | (refine rgT ?_;intro K hK) | (refine dA ?_;intro K hK) | (with_reducible refine hK _ ?_;clear hK K) | (refine stq ?_;simp (disch:=(first | omega | (simp;omega))) only [go_sem,w64,g0,hk0t,List.length_map]) | refine as1 ?_ | fail)
      (first | refine callA (specNameA (tbx xs k).nm (hn.at hk2)) ?_ | refine callD (specNameA (tbx xs k).nm (hn.at hk2)) ?_ | refine callE (specNameA (tbx xs k).nm (hn.at hk2)) ?_ | refine callF (specNameA (tbx xs k).nm (hn.at hk2)) ?_ ?_)
      rw [h1]
      repeat' (first | refine sq ?_ | refine stp ?_ | refine blk_o (by decide) ?_ | (apply cb;(focus (simp (disch:=(first | omega | (simp;omega))) only [go_sem,w64,g0,hk0t,List.length_map];try exact rfl));refine cok ?_) | (refine rgT ?_;intro K hK) | (refine dA ?_;intro K hK) | (with_reducible refine hK _ ?_;clear hK K) | (refine stq ?_;simp (disch:=(first | omega | (simp;omega))) only [go_sem,w64,g0,hk0t,List.length_map]) | refine as1 ?_ | fail)
      (first | refine callA (specValidRelA (tbx xs k).ar (tbx xs k).rows) ?_ | refine callD (specValidRelA (tbx xs k).ar (tbx xs k).rows) ?_ | refine callE (specValidRelA (tbx xs k).ar (tbx xs k).rows) ?_ | refine callF (specValidRelA (tbx xs k).ar (tbx xs k).rows) ?_ ?_)
      rw [h2]
      repeat' (first | refine sq ?_ | refine stp ?_ | refine blk_o (by decide) ?_ | (apply cb;(focus (simp (disch:=(first | omega | (simp;omega))) only [go_sem,w64,g0,hk0t,List.length_map];try exact rfl));refine cok ?_) | (refine rgT ?_;intro K hK) | (refine dA ?_;intro K hK) | (with_reducible refine hK _ ?_;clear hK K) | (refine stq ?_;simp (disch:=(first | omega | (simp;omega))) only [go_sem,w64,g0,hk0t,List.length_map]) | refine as1 ?_ | fail)
      rw [dbOK_at hk2 (fun g=>by have:=g.2.2.1;rw [h2] at this;cases this)]
      (refine endA (r:=.d (.bool false)) ?_)
      exact ⟨rfl,rfl⟩
     | true =>
      by_cases hl:(16:Int)<((tbx xs k).rows.length:Nat)
      ·have hlt:(16:Int)<((tbx xs k).rows.length:Nat)↔True:=iff_of_true hl trivial
       repeat' (first | refine sq ?_ | refine stp ?_ | refine blk_o (by decide) ?_ | (apply cb;(focus (simp (disch:=(first | omega | (simp;omega))) only [go_sem,w64,g0,hk0t,hlt,List.length_map];try exact rfl));refine cok ?_) | (refine rgT ?_;intro K hK) | (refine dA ?_;intro K hK) | (with_reducible refine hK _ ?_;clear hK K) | (refine stq ?_;simp (disch:=(first | omega | (simp;omega))) only [go_sem,w64,g0,hk0t,hlt,List.length_map]) | refine as1 ?_ | fail)
       (first | refine callA (specNameA (tbx xs k).nm (hn.at hk2)) ?_ | refine callD (specNameA (tbx xs k).nm (hn.at hk2)) ?_ | refine callE (specNameA (tbx xs k).nm (hn.at hk2)) ?_ | refine callF (specNameA (tbx xs k).nm (hn.at hk2)) ?_ ?_)
       rw [h1]
       repeat' (first | refine sq ?_ | refine stp ?_ | refine blk_o (by decide) ?_ | (apply cb;(focus (simp (disch:=(first | omega | (simp;omega))) only [go_sem,w64,g0,hk0t,hlt,List.length_map];try exact rfl));refine cok ?_) | (refine rgT ?_;intro K hK) | (refine dA ?_;intro K hK) | (with_reducible refine hK _ ?_;clear hK K) | (refine stq ?_;simp (disch:=(first | omega | (simp;omega))) only [go_sem,w64,g0,hk0t,hlt,List.length_map]) | refine as1 ?_ | fail)
       (first | refine callA (specValidRelA (tbx xs k).ar (tbx xs k).rows) ?_ | refine callD (specValidRelA (tbx xs k).ar (tbx xs k).rows) ?_ | refine callE (specValidRelA (tbx xs k).ar (tbx xs k).rows) ?_ | refine callF (specValidRelA (tbx xs k).ar (tbx xs k).rows) ?_ ?_)
       rw [h2]
       repeat' (first | refine sq ?_ | refine stp ?_ | refine blk_o (by decide) ?_ | (apply cb;(focus (simp (disch:=(first | omega | (simp;omega))) only [go_sem,w64,g0,hk0t,hlt,List.length_map];try exact rfl));refine cok ?_) | (refine rgT ?_;intro K hK) | (refine dA ?_;intro K hK) | (with_reducible refine hK _ ?_;clear hK K) | (refine stq ?_;simp (disch:=(first | omega | (simp;omega))) only [go_sem,w64,g0,hk0t,hlt,List.length_map]) | refine as1 ?_ | fail)
       rw [dbOK_at hk2 (fun g=>by have:=g.2.2.2.2;omega)]
       (refine endA (r:=.d (.bool false)) ?_)
       exact ⟨rfl,rfl⟩
      ·have hlt:(16:Int)<((tbx xs k).rows.length:Nat)↔False:=iff_of_false hl id
       by_cases ha:(tbx xs k).ar<1
       ·have hat:(tbx xs k).ar<1↔True:=iff_of_true ha trivial
        repeat' (first | refine sq ?_ | refine stp ?_ | refine blk_o (by decide) ?_ | (apply cb;(focus (simp (disch:=(first | omega | (simp;omega))) only [go_sem,w64,g0,hk0t,hlt,hat,List.length_map];try exact rfl));refine cok ?_) | (refine rgT ?_;intro K hK) | (refine dA ?_;intro K hK) | (with_reducible refine hK _ ?_;clear hK K) | (refine stq ?_;simp (disch:=(first | omega | (simp;omega))) only [go_sem,w64,g0,hk0t,hlt,hat,List.length_map]) | refine as1 ?_ | fail)
        (first | refine callA (specNameA (tbx xs k).nm (hn.at hk2)) ?_ | refine callD (specNameA (tbx xs k).nm (hn.at hk2)) ?_ | refine callE (specNameA (tbx xs k).nm (hn.at hk2)) ?_ | refine callF (specNameA (tbx xs k).nm (hn.at hk2)) ?_ ?_)
        rw [h1]
        repeat' (first | refine sq ?_ | refine stp ?_ | refine blk_o (by decide) ?_ | (apply cb;(focus (simp (disch:=(first | omega | (simp;omega))) only [go_sem,w64,g0,hk0t,hlt,hat,List.length_map];try exact rfl));refine cok ?_) | (refine rgT ?_;intro K hK) | (refine dA ?_;intro K hK) | (with_reducible refine hK _ ?_;clear hK K) | (refine stq ?_;simp (disch:=(first | omega | (simp;omega))) only [go_sem,w64,g0,hk0t,hlt,hat,List.length_map]) | refine as1 ?_ | fail)
        (first | refine callA (specValidRelA (tbx xs k).ar (tbx xs k).rows) ?_ | refine callD (specValidRelA (tbx xs k).ar (tbx xs k).rows) ?_ | refine callE (specValidRelA (tbx xs k).ar (tbx xs k).rows) ?_ | refine callF (specValidRelA (tbx xs k).ar (tbx xs k).rows) ?_ ?_)
        rw [h2]
        repeat' (first | refine sq ?_ | refine stp ?_ | refine blk_o (by decide) ?_ | (apply cb;(focus (simp (disch:=(first | omega | (simp;omega))) only [go_sem,w64,g0,hk0t,hlt,hat,List.length_map];try exact rfl));refine cok ?_) | (refine rgT ?_;intro K hK) | (refine dA ?_;intro K hK) | (with_reducible refine hK _ ?_;clear hK K) | (refine stq ?_;simp (disch:=(first | omega | (simp;omega))) only [go_sem,w64,g0,hk0t,hlt,hat,List.length_map]) | refine as1 ?_ | fail)
        rw [dbOK_at hk2 (fun g=>by have:=g.2.2.2.1;omega)]
        (refine endA (r:=.d (.bool false)) ?_)
        exact ⟨rfl,rfl⟩
       ·have hat:(tbx xs k).ar<1↔False:=iff_of_false ha id
        repeat' (first | refine sq ?_ | refine stp ?_ | refine blk_o (by decide) ?_ | (apply cb;(focus (simp (disch:=(first | omega | (simp;omega))) only [go_sem,w64,g0,hk0t,hlt,hat,List.length_map];try exact rfl));refine cok ?_) | (refine rgT ?_;intro K hK) | (refine dA ?_;intro K hK) | (with_reducible refine hK _ ?_;clear hK K) | (refine stq ?_;simp (disch:=(first | omega | (simp;omega))) only [go_sem,w64,g0,hk0t,hlt,hat,List.length_map]) | refine as1 ?_ | fail)
        (first | refine callA (specNameA (tbx xs k).nm (hn.at hk2)) ?_ | refine callD (specNameA (tbx xs k).nm (hn.at hk2)) ?_ | refine callE (specNameA (tbx xs k).nm (hn.at hk2)) ?_ | refine callF (specNameA (tbx xs k).nm (hn.at hk2)) ?_ ?_)
        rw [h1]
        repeat' (first | refine sq ?_ | refine stp ?_ | refine blk_o (by decide) ?_ | (apply cb;(focus (simp (disch:=(first | omega | (simp;omega))) only [go_sem,w64,g0,hk0t,hlt,hat,List.length_map];try exact rfl));refine cok ?_) | (refine rgT ?_;intro K hK) | (refine dA ?_;intro K hK) | (with_reducible refine hK _ ?_;clear hK K) | (refine stq ?_;simp (disch:=(first | omega | (simp;omega))) only [go_sem,w64,g0,hk0t,hlt,hat,List.length_map]) | refine as1 ?_ | fail)
        (first | refine callA (specValidRelA (tbx xs k).ar (tbx xs k).rows) ?_ | refine callD (specValidRelA (tbx xs k).ar (tbx xs k).rows) ?_ | refine callE (specValidRelA (tbx xs k).ar (tbx xs k).rows) ?_ | refine callF (specValidRelA (tbx xs k).ar (tbx xs k).rows) ?_ ?_)
        rw [h2]
        repeat' (first | refine sq ?_ | refine stp ?_ | refine blk_o (by decide) ?_ | (apply cb;(focus (simp (disch:=(first | omega | (simp;omega))) only [go_sem,w64,g0,hk0t,hlt,hat,List.length_map];try exact rfl));refine cok ?_) | (refine rgT ?_;intro K hK) | (refine dA ?_;intro K hK) | (with_reducible refine hK _ ?_;clear hK K) | (refine stq ?_;simp (disch:=(first | omega | (simp;omega))) only [go_sem,w64,g0,hk0t,hlt,hat,List.length_map]) | refine as1 ?_ | fail)
        refine ⟨xs.length - (k+1),_,by omega,?_,k+1,rfl,by omega,fun i hi=>?_,rfl⟩
        ·exact sleA
        ·by_cases e:i=k
         ·subst e;exact ⟨h1,fun h=>absurd h (by omega),h2,by omega,by omega⟩
         ·exact hin i (by omega)
  ·obtain rfl:k=xs.length:=by omega
   by_cases h6:((xs.length:Nat):Int)≤6
   ·have h6t:((xs.length:Nat):Int)≤6↔True:=iff_of_true h6 trivial
    repeat' (first | refine sq ?_ | refine stp ?_ | refine blk_o (by decide) ?_ | (apply cb;(focus (simp (disch:=(first | omega | (simp;omega))) only [go_sem,w64,List.length_map,h6t];try exact rfl));refine cok ?_) | (refine rgT ?_;intro K hK) | (refine dA ?_;intro K hK) | (with_reducible refine hK _ ?_;clear hK K) | (refine stq ?_;simp (disch:=(first | omega | (simp;omega))) only [go_sem,w64,List.length_map,h6t]) | refine as1 ?_ | fail)
    rw [dbOK_yes (by omega) hin]
    (refine endA (r:=.d (.bool true)) ?_)
    exact ⟨rfl,rfl⟩
   ·have h6t:((xs.length:Nat):Int)≤6↔False:=iff_of_false h6 id
    repeat' (first | refine sq ?_ | refine stp ?_ | refine blk_o (by decide) ?_ | (apply cb;(focus (simp (disch:=(first | omega | (simp;omega))) only [go_sem,w64,List.length_map,h6t];try exact rfl));refine cok ?_) | (refine rgT ?_;intro K hK) | (refine dA ?_;intro K hK) | (with_reducible refine hK _ ?_;clear hK K) | (refine stq ?_;simp (disch:=(first | omega | (simp;omega))) only [go_sem,w64,List.length_map,h6t]) | refine as1 ?_ | fail)
    rw [dbOK_len (by omega)]
    (refine endA (r:=.d (.bool false)) ?_)
    exact ⟨rfl,rfl⟩
end Go.Proofs.Ytlpdbkhekbdceaa
