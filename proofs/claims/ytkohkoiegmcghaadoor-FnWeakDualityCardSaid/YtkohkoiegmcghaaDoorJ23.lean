/- Lemmas for the proof of FnCoverDuality, part 23 of 25: no condition of their own. -/
import Derived.Test.YtkohkoiegmcghaaDoorJ16
import Derived.Test.YtkohkoiegmcghaaDoorJ22
import Derived.Test.YtkohkoiegmcghaaDoorJ19
import Derived.Test.YtkohkoiegmcghaaDoorJ18
import Derived.Test.YtkohkoiegmcghaaDoorJ1
import Derived.ProofKit
import Derived.OpenShut
import Derived.ShutString
import Derived.ChangeOld
import Derived.Below
import Derived.Deep.Slices
import Derived.Test.YtkohkoiegmcghaaDoorJ6
import Derived.ChangeSame
namespace Go.Proofs.YtkohkoiegmcghaaDoor
set_option linter.unusedSimpArgs false
set_option linter.unusedVariables false
attribute [local go_sem ↓] reduceIte
attribute [local go_sem] Nat.reduceEqDiff Nat.reduceLT Nat.reduceAdd Nat.reduceLeDiff Nat.reduceMul Nat.reduceBEq Nat.reduceSub reduceCtorEq Int.reduceLE Int.reduceNeg Int.reduceLT
open Go.RowKit
theorem flatR_lenD (l:List RatD):(flatD (l.map ratDV)).length=l.length*2:=by
 induction l with
 | nil=>rfl
 | cons x l ih=>simp only [flatD,List.map_cons,List.flatten_cons,List.length_append,List.length_cons] at ih ⊢;rw [ih];simp [ratDV,dcells];omega
theorem flatR_set (l:List RatD) (k:Nat) (x y:Int) (h:k<l.length):splice ((flatD (l.map ratDV)).map .d) (k*2) [.d (.int x),.d (.int y)]=(flatD ((l.set k ⟨x,y⟩).map ratDV)).map .d:=by
 induction l generalizing k with
 | nil=>simp at h
 | cons z l ih =>
  cases k with
  | zero=>simp [splice,flatD,ratDV,dcells]
  | succ k =>
   have:=ih k (by simpa using h)
   simp only [splice,flatD,List.map_cons,List.flatten_cons,List.set_cons_succ,List.map_append,ratDV,dcells,List.map_nil,List.cons_append,List.nil_append,show (k+1)*2=k*2+1+1 by omega,List.take_succ_cons,List.drop_succ_cons,List.length_cons,List.length_nil] at this ⊢
   rw [← this]
theorem flatR_set' (l:List RatD) (k:Nat) (x y:Int) (h:k<l.length):List.take (k*2) ((flatD (l.map ratDV)).map AV.d) ++ .d (.int x) :: .d (.int y) :: List.drop (k*2+2) ((flatD (l.map ratDV)).map AV.d)=(flatD ((l.set k ⟨x,y⟩).map ratDV)).map .d:=flatR_set l k x y h
theorem elems_rat (l:List RatD):elemsOK 2 (l.map ratDV)=true:=by simp [elemsOK,dcells,leaves,isAgg',ratDV]
theorem newRat_i64 (n d:Int):I64 (newRat n d).1∧I64 (newRat n d).2.1:=by
 have key:∀ x y:Int,ratOK x y=true→I64 x∧I64 y:=fun x y h=>by
  simp only [ratOK,Bool.and_eq_true,decide_eq_true_eq] at h
  unfold I64;omega
 have key0:I64 0:=by unfold I64;omega
 unfold newRat
 dsimp only
 repeat' split
 all_goals first | exact ⟨key0,key0⟩ | (exact key _ _ (by assumption))
theorem specNewRatA (n d:Int):AFn 52 [.d (.int n),.d (.int d)] [] (fun r os=>r=.tup [.d (ratDV ⟨(newRat n d).1,(newRat n d).2.1⟩),.d (.bool (newRat n d).2.2)]∧os=[]):=by
 refine leaf_afn (v:=ratB (newRat n d)) (fnOK (by kernel_rfl)) (fun G w=>?_) ?_
 ·obtain ⟨i1,i2⟩:=newRat_i64 n d
  refine ⟨[.agg #[.int .i64 (newRat n d).1,.int .i64 (newRat n d).2.1],.bool (newRat n d).2.2],rfl,_,_,rfl,?_,_,_,rfl,cvBool.2 rfl,rfl⟩
  exact cvAgg.2 ⟨[_,_],cxs_two.2 ⟨rfl,i1,i2⟩,rfl⟩
 ·rintro w G _ ⟨v,_,rfl,h1,u,_,rfl,h2,rfl⟩ hC
  obtain ⟨rfl,i1⟩:=cvInt.1 h1
  obtain ⟨rfl,i2⟩:=cvInt.1 h2
  exact specNewRat n d w i1 i2
theorem l2RatA:AFn 70 [.ptr 0 0] [curL] (fun r os=>∃ x:RatD,r=.d (ratDV x)∧os=[curL]):=by
 refine afn_of (rv:=[.cell 2 33]) tyT_ok Tryd.func70 rfl (by decide +kernel) Tryd.ntmps70 rfl (by simp) ?_
 repeat' (first | refine sq ?_ | refine stp ?_ | refine blk_o (by decide) ?_ | (apply cb;(focus (simp (disch:=(first | omega | (simp;omega))) only [go_sem,w64];try exact rfl));refine cok ?_) | (refine rgT ?_;intro K hK) | (refine dA ?_;intro K hK) | (with_reducible refine hK _ ?_;clear hK K) | (refine stq ?_;simp (disch:=(first | omega | (simp;omega))) only [go_sem,w64]) | refine as1 ?_ | fail)
 (refine callL 1000000 (l1BelowA 41) ?_)
 rintro r os ⟨x,⟨hx0,_,hx1⟩,rfl,rfl⟩
 have hx2:=hx1 (by omega)
 have w1:IntKind.i64.wrap (x - 20)=x - 20:=w64 (by omega)
 refine ⟨by decide,?_⟩
 repeat' (first | refine sq ?_ | refine stp ?_ | refine blk_o (by decide) ?_ | (apply cb;(focus (simp (disch:=(first | omega | (simp;omega))) only [go_sem,w64,w1];try exact rfl));refine cok ?_) | (refine rgT ?_;intro K hK) | (refine dA ?_;intro K hK) | (with_reducible refine hK _ ?_;clear hK K) | (refine stq ?_;simp (disch:=(first | omega | (simp;omega))) only [go_sem,w64,w1]) | refine as1 ?_ | fail)
 (refine callL 1000000 (l1BelowA 12) ?_)
 rintro r os ⟨y,⟨hy0,_,hy1⟩,rfl,rfl⟩
 have hy2:=hy1 (by omega)
 have w2:IntKind.i64.wrap (1+y)=1+y:=w64 (by omega)
 refine ⟨by decide,?_⟩
 repeat' (first | refine sq ?_ | refine stp ?_ | refine blk_o (by decide) ?_ | (apply cb;(focus (simp (disch:=(first | omega | (simp;omega))) only [go_sem,w64,w1,w2];try exact rfl));refine cok ?_) | (refine rgT ?_;intro K hK) | (refine dA ?_;intro K hK) | (with_reducible refine hK _ ?_;clear hK K) | (refine stq ?_;simp (disch:=(first | omega | (simp;omega))) only [go_sem,w64,w1,w2]) | refine as1 ?_ | fail)
 (first | refine callA (specNewRatA (x - 20) (1+y)) ?_ | refine callD (specNewRatA (x - 20) (1+y)) ?_ | refine callE (specNewRatA (x - 20) (1+y)) ?_ | refine callF (specNewRatA (x - 20) (1+y)) ?_ ?_)
 generalize (⟨(newRat (x - 20) (1+y)).1,(newRat (x - 20) (1+y)).2.1⟩:RatD)=q
 generalize (newRat (x - 20) (1+y)).2.2=b1
 repeat' (first | refine sq ?_ | refine stp ?_ | refine blk_o (by decide) ?_ | (apply cb;(focus (simp (disch:=(first | omega | (simp;omega))) only [go_sem,w64,ratDV];try exact rfl));refine cok ?_) | (refine rgT ?_;intro K hK) | (refine dA ?_;intro K hK) | (with_reducible refine hK _ ?_;clear hK K) | (refine stq ?_;simp (disch:=(first | omega | (simp;omega))) only [go_sem,w64,ratDV]) | refine as1 ?_ | fail)
 (refine callL 1000000 (l1OnceA 12) ?_)
 rintro r os ⟨b,rfl,rfl⟩
 refine ⟨by decide,?_⟩
 cases b with
 | false =>
  repeat' (first | refine sq ?_ | refine stp ?_ | refine blk_o (by decide) ?_ | (apply cb;(focus (simp (disch:=(first | omega | (simp;omega))) only [go_sem,w64,ratDV];try exact rfl));refine cok ?_) | (refine rgT ?_;intro K hK) | (refine dA ?_;intro K hK) | (with_reducible refine hK _ ?_;clear hK K) | (refine stq ?_;simp (disch:=(first | omega | (simp;omega))) only [go_sem,w64,ratDV]) | refine as1 ?_ | fail)
  refine end1 0 (.inr rfl) (by simp (disch:=(first | omega | (simp;omega))) only [go_sem,w64];rfl) (by simp (disch:=(first | omega | (simp;omega))) only [go_sem,w64];rfl) (r:=.d (ratDV q)) (by simp (disch:=(first | omega | (simp;omega))) only [go_sem,w64];exact .refl _) ?_
  exact ⟨q,rfl,rfl⟩
 | true =>
  repeat' (first | refine sq ?_ | refine stp ?_ | refine blk_o (by decide) ?_ | (apply cb;(focus (simp (disch:=(first | omega | (simp;omega))) only [go_sem,w64,ratDV];try exact rfl));refine cok ?_) | (refine rgT ?_;intro K hK) | (refine dA ?_;intro K hK) | (with_reducible refine hK _ ?_;clear hK K) | (refine stq ?_;simp (disch:=(first | omega | (simp;omega))) only [go_sem,w64,ratDV]) | refine as1 ?_ | fail)
  (refine callL 1000000 (l1PickIntA [1000000000,-1000000000,999999937,1] (by decide)) ?_)
  rintro r os ⟨u,rfl,rfl⟩
  refine ⟨by decide,?_⟩
  repeat' (first | refine sq ?_ | refine stp ?_ | refine blk_o (by decide) ?_ | (apply cb;(focus (simp (disch:=(first | omega | (simp;omega))) only [go_sem,w64,ratDV];try exact rfl));refine cok ?_) | (refine rgT ?_;intro K hK) | (refine dA ?_;intro K hK) | (with_reducible refine hK _ ?_;clear hK K) | (refine stq ?_;simp (disch:=(first | omega | (simp;omega))) only [go_sem,w64,ratDV]) | refine as1 ?_ | fail)
  (refine callL 1000000 (l1PickIntA [1,1000000000,999999893] (by decide)) ?_)
  rintro r os ⟨v,rfl,rfl⟩
  refine ⟨by decide,?_⟩
  repeat' (first | refine sq ?_ | refine stp ?_ | refine blk_o (by decide) ?_ | (apply cb;(focus (simp (disch:=(first | omega | (simp;omega))) only [go_sem,w64,ratDV];try exact rfl));refine cok ?_) | (refine rgT ?_;intro K hK) | (refine dA ?_;intro K hK) | (with_reducible refine hK _ ?_;clear hK K) | (refine stq ?_;simp (disch:=(first | omega | (simp;omega))) only [go_sem,w64,ratDV]) | refine as1 ?_ | fail)
  (first | refine callA (specNewRatA u v) ?_ | refine callD (specNewRatA u v) ?_ | refine callE (specNewRatA u v) ?_ | refine callF (specNewRatA u v) ?_ ?_)
  generalize (⟨(newRat u v).1,(newRat u v).2.1⟩:RatD)=q'
  generalize (newRat u v).2.2=b2
  repeat' (first | refine sq ?_ | refine stp ?_ | refine blk_o (by decide) ?_ | (apply cb;(focus (simp (disch:=(first | omega | (simp;omega))) only [go_sem,w64,ratDV];try exact rfl));refine cok ?_) | (refine rgT ?_;intro K hK) | (refine dA ?_;intro K hK) | (with_reducible refine hK _ ?_;clear hK K) | (refine stq ?_;simp (disch:=(first | omega | (simp;omega))) only [go_sem,w64,ratDV]) | refine as1 ?_ | fail)
  refine end1 0 (.inr rfl) (by simp (disch:=(first | omega | (simp;omega))) only [go_sem,w64];rfl) (by simp (disch:=(first | omega | (simp;omega))) only [go_sem,w64];rfl) (r:=.d (ratDV q')) (by simp (disch:=(first | omega | (simp;omega))) only [go_sem,w64];exact .refl _) ?_
  exact ⟨q',rfl,rfl⟩
theorem l2AnyA:AFn 53 [.ptr 0 0] [curL] (fun r os=>∃ x:RatD,r=.d (ratDV x)∧os=[curL]):=by
 refine afn_of (rv:=[.cell 2 33]) tyT_ok Tryd.func53 rfl (by decide +kernel) Tryd.ntmps53 rfl (by simp) ?_
 repeat' (first | refine sq ?_ | refine stp ?_ | refine blk_o (by decide) ?_ | (apply cb;(focus (simp (disch:=(first | omega | (simp;omega))) only [go_sem,w64];try exact rfl));refine cok ?_) | (refine rgT ?_;intro K hK) | (refine dA ?_;intro K hK) | (with_reducible refine hK _ ?_;clear hK K) | (refine stq ?_;simp (disch:=(first | omega | (simp;omega))) only [go_sem,w64]) | refine as1 ?_ | fail)
 (refine callL 1000000 (l2RatA) ?_)
 rintro r os ⟨q,rfl,rfl⟩
 refine ⟨by decide,?_⟩
 repeat' (first | refine sq ?_ | refine stp ?_ | refine blk_o (by decide) ?_ | (apply cb;(focus (simp (disch:=(first | omega | (simp;omega))) only [go_sem,w64,ratDV];try exact rfl));refine cok ?_) | (refine rgT ?_;intro K hK) | (refine dA ?_;intro K hK) | (with_reducible refine hK _ ?_;clear hK K) | (refine stq ?_;simp (disch:=(first | omega | (simp;omega))) only [go_sem,w64,ratDV]) | refine as1 ?_ | fail)
 (refine callL 1000000 (l1BelowA 14) ?_)
 rintro r os ⟨y,⟨hy0,_,hy1⟩,rfl,rfl⟩
 refine ⟨by decide,?_⟩
 by_cases h0:y=0
 ·repeat' (first | refine sq ?_ | refine stp ?_ | refine blk_o (by decide) ?_ | (apply cb;(focus (simp (disch:=(first | omega | (simp;omega))) only [go_sem,w64,ratDV,h0];try exact rfl));refine cok ?_) | (refine rgT ?_;intro K hK) | (refine dA ?_;intro K hK) | (with_reducible refine hK _ ?_;clear hK K) | (refine stq ?_;simp (disch:=(first | omega | (simp;omega))) only [go_sem,w64,ratDV,h0]) | refine as1 ?_ | fail)
  (refine callL 1000000 (l1PickIntA [0,-1,1000000001] (by decide)) ?_)
  rintro r os ⟨u,rfl,rfl⟩
  refine ⟨by decide,?_⟩
  repeat' (first | refine sq ?_ | refine stp ?_ | refine blk_o (by decide) ?_ | (apply cb;(focus (simp (disch:=(first | omega | (simp;omega))) only [go_sem,w64,ratDV];try exact rfl));refine cok ?_) | (refine rgT ?_;intro K hK) | (refine dA ?_;intro K hK) | (with_reducible refine hK _ ?_;clear hK K) | (refine stq ?_;simp (disch:=(first | omega | (simp;omega))) only [go_sem,w64,ratDV]) | refine as1 ?_ | fail)
  refine end1 0 (.inr rfl) (by simp (disch:=(first | omega | (simp;omega))) only [go_sem,w64];rfl) (by simp (disch:=(first | omega | (simp;omega))) only [go_sem,w64];rfl) (r:=.d (ratDV ⟨q.num,u⟩)) (by simp (disch:=(first | omega | (simp;omega))) only [go_sem,w64];exact .refl _) ?_
  exact ⟨_,rfl,rfl⟩
 ·have h0':y=0↔False:=iff_of_false h0 id
  by_cases h1:y=1
  ·have h1t:y=1↔True:=iff_of_true h1 trivial
   clear h1
   repeat' (first | refine sq ?_ | refine stp ?_ | refine blk_o (by decide) ?_ | (apply cb;(focus (simp (disch:=(first | omega | (simp;omega))) only [go_sem,w64,ratDV,h0',h1t];try exact rfl));refine cok ?_) | (refine rgT ?_;intro K hK) | (refine dA ?_;intro K hK) | (with_reducible refine hK _ ?_;clear hK K) | (refine stq ?_;simp (disch:=(first | omega | (simp;omega))) only [go_sem,w64,ratDV,h0',h1t]) | refine as1 ?_ | fail)
   (refine callL 1000000 (l1PickIntA [1000000001,-1000000001,IntKind.i64.wrap (2*q.den)] (by simp)) ?_)
   rintro r os ⟨u,rfl,rfl⟩
   refine ⟨by decide,?_⟩
   repeat' (first | refine sq ?_ | refine stp ?_ | refine blk_o (by decide) ?_ | (apply cb;(focus (simp (disch:=(first | omega | (simp;omega))) only [go_sem,w64,ratDV];try exact rfl));refine cok ?_) | (refine rgT ?_;intro K hK) | (refine dA ?_;intro K hK) | (with_reducible refine hK _ ?_;clear hK K) | (refine stq ?_;simp (disch:=(first | omega | (simp;omega))) only [go_sem,w64,ratDV]) | refine as1 ?_ | fail)
   refine end1 0 (.inr rfl) (by simp (disch:=(first | omega | (simp;omega))) only [go_sem,w64];rfl) (by simp (disch:=(first | omega | (simp;omega))) only [go_sem,w64];rfl) (r:=.d (ratDV ⟨u,q.den⟩)) (by simp (disch:=(first | omega | (simp;omega))) only [go_sem,w64];exact .refl _) ?_
   exact ⟨_,rfl,rfl⟩
  ·have h1':y=1↔False:=iff_of_false h1 id
   repeat' (first | refine sq ?_ | refine stp ?_ | refine blk_o (by decide) ?_ | (apply cb;(focus (simp (disch:=(first | omega | (simp;omega))) only [go_sem,w64,ratDV,h0',h1'];try exact rfl));refine cok ?_) | (refine rgT ?_;intro K hK) | (refine dA ?_;intro K hK) | (with_reducible refine hK _ ?_;clear hK K) | (refine stq ?_;simp (disch:=(first | omega | (simp;omega))) only [go_sem,w64,ratDV,h0',h1']) | refine as1 ?_ | fail)
   refine end1 0 (.inr rfl) (by simp (disch:=(first | omega | (simp;omega))) only [go_sem,w64];rfl) (by simp (disch:=(first | omega | (simp;omega))) only [go_sem,w64];rfl) (r:=.d (ratDV q)) (by simp (disch:=(first | omega | (simp;omega))) only [go_sem,w64];exact .refl _) ?_
   exact ⟨_,rfl,rfl⟩
theorem flatR_int (l:List RatD):(flatD (l.map ratDV)).all isIntD=true:=by
 induction l with
 | nil=>rfl
 | cons x l ih=>simp only [flatD,List.map_cons,List.flatten_cons,List.all_append,Bool.and_eq_true] at ih ⊢;exact ⟨rfl,ih⟩
abbrev Wt (x:RatD):Prop:=vR x=true∧(0≤x.num∧x.num≤3)∧(x.den=1∨x.den=2∨x.den=3)
theorem wt_new:∀ n∈[(0:Int),1,2,3],∀ d∈[(1:Int),2,2,3],Wt ⟨(newRat n d).1,(newRat n d).2.1⟩:=by decide +kernel
def Wts (l:List RatD):Prop:=∀ i,1≤i→i<l.length→Wt (qx l i)
theorem wts_set {l:List RatD} {x:RatD} (h:∀ y∈l,Wt y):Wts (l.set 0 x):=fun i h1 hi=>by
 rw [List.length_set] at hi
 have e:qx (l.set 0 x) i=qx l i:=by
  simp only [qx,List.getD,List.getElem?_set]
  rw [if_neg (by omega)]
 rw [e];exact h _ (mem_qx hi)
theorem l12WeightsW (n:Int) (hn:n≤1000):AFn 24 [.ptr 0 0,.d (.int n)] [curL] (fun r os=>∃ l:List RatD,l.length≤1000∧Wts l∧r=.d (ratsD l)∧os=[curL]):=by
 refine afn_of (rv:=[.tmp 4]) tyT_ok Tryd.func24 rfl (by decide +kernel) Tryd.ntmps24 rfl (by simp) ?_
 repeat' (first | refine sq ?_ | refine stp ?_ | refine blk_o (by decide) ?_ | (apply cb;(focus (simp (disch:=(first | omega | (simp;omega))) only [go_sem,w64];try exact rfl));refine cok ?_) | (refine rgT ?_;intro K hK) | (refine dA ?_;intro K hK) | (with_reducible refine hK _ ?_;clear hK K) | (refine stq ?_;simp (disch:=(first | omega | (simp;omega))) only [go_sem,w64]) | refine as1 ?_ | fail)
 refine awp_loopw (fun m s=>∃ l:List RatD,m=n.toNat - l.length∧l.length≤1000∧(∀ y∈l,Wt y)∧s=mkS [(0,.ptr 1000000 0),(1,.d (.int n)),(5,.buf 8 33 2 (l.map ratDV))] [(1000000,curL)]) ?_ ?_
 ·refine ⟨_,_,?_,[],rfl,by simp,fun y hy=>(by cases hy),rfl⟩
  exact sleA
 ·rintro m s ⟨l,rfl,hl,hw,rfl⟩
  have hws:Wts l:=fun i _ hi=>hw _ (mem_qx hi)
  repeat' (first | refine sq ?_ | refine stp ?_ | refine blk_o (by decide) ?_ | (apply cb;(focus (simp (disch:=(first | omega | (simp;omega))) only [go_sem,w64];try exact rfl));refine cok ?_) | (refine rgT ?_;intro K hK) | (refine dA ?_;intro K hK) | (with_reducible refine hK _ ?_;clear hK K) | (refine stq ?_;simp (disch:=(first | omega | (simp;omega))) only [go_sem,w64]) | refine as1 ?_ | fail)
  refine awp_if (p:=(l.length:Int)<n) (by simp (disch:=(first | omega | (simp;omega))) only [go_sem,w64]) ?_ ?_ <;> intro hc
  ·repeat' (first | refine sq ?_ | refine stp ?_ | refine blk_o (by decide) ?_ | (apply cb;(focus (simp (disch:=(first | omega | (simp;omega))) only [go_sem,w64];try exact rfl));refine cok ?_) | (refine rgT ?_;intro K hK) | (refine dA ?_;intro K hK) | (with_reducible refine hK _ ?_;clear hK K) | (refine stq ?_;simp (disch:=(first | omega | (simp;omega))) only [go_sem,w64]) | refine as1 ?_ | fail)
   (refine callL 1000000 (l1BelowA 4) ?_)
   rintro r os ⟨x,⟨x0,_,x1⟩,rfl,rfl⟩
   have x2:=x1 (by omega)
   refine ⟨by decide,?_⟩
   repeat' (first | refine sq ?_ | refine stp ?_ | refine blk_o (by decide) ?_ | (apply cb;(focus (simp (disch:=(first | omega | (simp;omega))) only [go_sem,w64];try exact rfl));refine cok ?_) | (refine rgT ?_;intro K hK) | (refine dA ?_;intro K hK) | (with_reducible refine hK _ ?_;clear hK K) | (refine stq ?_;simp (disch:=(first | omega | (simp;omega))) only [go_sem,w64]) | refine as1 ?_ | fail)
   (refine callL 1000000 (l1PickIntM [1,2,2,3] (by decide)) ?_)
   rintro r os ⟨d,hd,rfl,rfl⟩
   have hq:=wt_new x (by simp only [List.mem_cons,List.not_mem_nil,or_false];omega) d hd
   refine ⟨by decide,?_⟩
   repeat' (first | refine sq ?_ | refine stp ?_ | refine blk_o (by decide) ?_ | (apply cb;(focus (simp (disch:=(first | omega | (simp;omega))) only [go_sem,w64];try exact rfl));refine cok ?_) | (refine rgT ?_;intro K hK) | (refine dA ?_;intro K hK) | (with_reducible refine hK _ ?_;clear hK K) | (refine stq ?_;simp (disch:=(first | omega | (simp;omega))) only [go_sem,w64]) | refine as1 ?_ | fail)
   (first | refine callA (specNewRatA x d) ?_ | refine callD (specNewRatA x d) ?_ | refine callE (specNewRatA x d) ?_ | refine callF (specNewRatA x d) ?_ ?_)
   generalize (⟨(newRat x d).1,(newRat x d).2.1⟩:RatD)=q at *
   generalize (newRat x d).2.2=b1
   repeat' (first | refine sq ?_ | refine stp ?_ | refine blk_o (by decide) ?_ | (apply cb;(focus (simp (disch:=(first | omega | (simp;omega))) only [go_sem,w64,ratDV];try exact rfl));refine cok ?_) | (refine rgT ?_;intro K hK) | (refine dA ?_;intro K hK) | (with_reducible refine hK _ ?_;clear hK K) | (refine stq ?_;simp (disch:=(first | omega | (simp;omega))) only [go_sem,w64,ratDV]) | refine as1 ?_ | fail)
   refine ⟨n.toNat - (l.length+1),_,by omega,?_,l ++ [q],by simp,by simp;omega,?_,rfl⟩
   ·rw [List.map_append]
    exact sleA
   ·intro y hy
    rcases List.mem_append.1 hy with hy | hy
    ·exact hw y hy
    ·rw [List.mem_singleton] at hy;subst hy;exact hq
  ·by_cases h0:l.length=0
   ·have h0':(0:Int)<(l.length:Nat)↔False:=iff_of_false (by omega) id
    repeat' (first | refine sq ?_ | refine stp ?_ | refine blk_o (by decide) ?_ | (apply cb;(focus (simp (disch:=(first | omega | (simp;omega))) only [go_sem,w64,h0'];try exact rfl));refine cok ?_) | (refine rgT ?_;intro K hK) | (refine dA ?_;intro K hK) | (with_reducible refine hK _ ?_;clear hK K) | (refine stq ?_;simp (disch:=(first | omega | (simp;omega))) only [go_sem,w64,h0']) | refine as1 ?_ | fail)
    refine end1 0 (.inr rfl) (by simp (disch:=(first | omega | (simp;omega))) only [go_sem,w64];rfl) (by simp (disch:=(first | omega | (simp;omega))) only [go_sem,w64];rfl) (r:=.d (ratsD l)) (by simp (disch:=(first | omega | (simp;omega))) only [go_sem,w64];exact .refl _) ?_
    exact ⟨l,hl,hws,rfl,rfl⟩
   ·have h0':(0:Int)<(l.length:Nat)↔True:=iff_of_true (by omega) trivial
    repeat' (first | refine sq ?_ | refine stp ?_ | refine blk_o (by decide) ?_ | (apply cb;(focus (simp (disch:=(first | omega | (simp;omega))) only [go_sem,w64,h0'];try exact rfl));refine cok ?_) | (refine rgT ?_;intro K hK) | (refine dA ?_;intro K hK) | (with_reducible refine hK _ ?_;clear hK K) | (refine stq ?_;simp (disch:=(first | omega | (simp;omega))) only [go_sem,w64,h0']) | refine as1 ?_ | fail)
    (refine callL 1000000 (l1OnceA 12) ?_)
    rintro r os ⟨b,rfl,rfl⟩
    refine ⟨by decide,?_⟩
    cases b with
    | false =>
     repeat' (first | refine sq ?_ | refine stp ?_ | refine blk_o (by decide) ?_ | (apply cb;(focus (simp (disch:=(first | omega | (simp;omega))) only [go_sem,w64];try exact rfl));refine cok ?_) | (refine rgT ?_;intro K hK) | (refine dA ?_;intro K hK) | (with_reducible refine hK _ ?_;clear hK K) | (refine stq ?_;simp (disch:=(first | omega | (simp;omega))) only [go_sem,w64]) | refine as1 ?_ | fail)
     refine end1 0 (.inr rfl) (by simp (disch:=(first | omega | (simp;omega))) only [go_sem,w64];rfl) (by simp (disch:=(first | omega | (simp;omega))) only [go_sem,w64];rfl) (r:=.d (ratsD l)) (by simp (disch:=(first | omega | (simp;omega))) only [go_sem,w64];exact .refl _) ?_
     exact ⟨l,hl,hws,rfl,rfl⟩
    | true =>
     repeat' (first | refine sq ?_ | refine stp ?_ | refine blk_o (by decide) ?_ | (apply cb;(focus (simp (disch:=(first | omega | (simp;omega))) only [go_sem,w64];try exact rfl));refine cok ?_) | (with_reducible refine hK _ ?_;clear hK K) | (refine stq ?_;simp (disch:=(first | omega | (simp;omega))) only [go_sem,w64]) | refine as1 ?_ | fail)
     refine awp_thaw 5 8 40 2 [0] [1000000] (by decide) (by simp (disch:=(first | omega | (simp;omega))) only [go_sem,w64];exact rfl) (fun e=>h0 (by simpa using congrArg List.length e)) (by decide) (elems_rat l) (flatR_int l) (by decide) (by simp (disch:=(first | omega | (simp;omega))) only [go_sem,w64];exact isL_rfl _) (by simp (disch:=(first | omega | (simp;omega))) only [go_sem,w64];exact isL_rfl _) (by simp) (by simp) (by simp [OKT]) (by simp only [List.mem_singleton,forall_eq];exact cur_okt 40) ?_
     repeat' (first | refine sq ?_ | refine stp ?_ | refine blk_o (by decide) ?_ | (apply cb;(focus (simp (disch:=(first | omega | (simp;omega))) only [go_sem,w64,List.length_map];try exact rfl));refine cok ?_) | (refine rgT ?_;intro K hK) | (refine dA ?_;intro K hK) | (with_reducible refine hK _ ?_;clear hK K) | (refine stq ?_;simp (disch:=(first | omega | (simp;omega))) only [go_sem,w64,List.length_map]) | refine as1 ?_ | fail)
     (refine callL 1000000 (l2AnyA) ?_)
     rintro r os ⟨q,rfl,rfl⟩
     refine ⟨by decide,?_⟩
     have hs:=flatR_set' l 0 q.num q.den (by omega)
     simp only [Nat.zero_mul,Nat.zero_add,List.take_zero,List.nil_append] at hs
     repeat' (first | refine sq ?_ | refine stp ?_ | refine blk_o (by decide) ?_ | (apply cb;(focus (simp (disch:=(first | omega | (simp;omega))) only [go_sem,w64,List.length_map,ratDV,flatR_lenD,Int.toNat_zero,Nat.zero_mul,Nat.zero_add,hs];try exact rfl));refine cok ?_) | (with_reducible refine hK _ ?_;clear hK K) | (refine stq ?_;simp (disch:=(first | omega | (simp;omega))) only [go_sem,w64,List.length_map,ratDV,flatR_lenD,Int.toNat_zero,Nat.zero_mul,Nat.zero_add,hs]) | refine as1 ?_ | fail)
     refine awp_freeze 40 2 ((l.set 0 ⟨q.num,q.den⟩).map ratDV) (by simp (disch:=(first | omega | (simp;omega))) only [go_sem,w64]) (elems_rat _) (by decide) ?_
     repeat' (first | refine sq ?_ | refine stp ?_ | refine blk_o (by decide) ?_ | (apply cb;(focus (simp (disch:=(first | omega | (simp;omega))) only [go_sem,w64,List.length_map,List.length_set];try exact rfl));refine cok ?_) | (refine rgT ?_;intro K hK) | (refine dA ?_;intro K hK) | (with_reducible refine hK _ ?_;clear hK K) | (refine stq ?_;simp (disch:=(first | omega | (simp;omega))) only [go_sem,w64,List.length_map,List.length_set]) | refine as1 ?_ | fail)
     refine end1 0 (.inr rfl) (by simp (disch:=(first | omega | (simp;omega))) only [go_sem,w64];rfl) (by simp (disch:=(first | omega | (simp;omega))) only [go_sem,w64];rfl) (r:=.d (ratsD (l.set 0 ⟨q.num,q.den⟩))) (by simp (disch:=(first | omega | (simp;omega))) only [go_sem,w64];exact .refl _) ?_
     exact ⟨_,by simpa using hl,wts_set hw,rfl,rfl⟩
theorem drawCovA (code:List Int) (hl:code.length≤1048576):AFn 6 [.d (.sl 1 (code.map .byte))] [] (fun r os=>∃ (nv:Int) (xs:List AtomD) (us:List Int) (w:List RatD),QAny nv xs us∧w.length≤1000∧Wts w∧r=.tup [.d (queryD nv xs us),.d (ratsD w)]∧os=[]):=by
 refine afn_of (rv:=[.cell 2 27,.tmp 3]) tyT_ok Tryd.func6 rfl (by decide +kernel) Tryd.ntmps6 rfl (by simp) ?_
 repeat' (first | refine sq ?_ | refine stp ?_ | refine blk_o (by decide) ?_ | (apply cb;(focus (simp (disch:=(first | omega | (simp;omega))) only [go_sem,w64];try exact rfl));refine cok ?_) | (refine rgT ?_;intro K hK) | (refine dA ?_;intro K hK) | (with_reducible refine hK _ ?_;clear hK K) | (refine stq ?_;simp (disch:=(first | omega | (simp;omega))) only [go_sem,w64]) | refine as1 ?_ | fail)
 refine call2 (l1NewA code hl) ?_
 repeat' (first | refine sq ?_ | refine stp ?_ | refine blk_o (by decide) ?_ | (apply cb;(focus (simp (disch:=(first | omega | (simp;omega))) only [go_sem,w64];try exact rfl));refine cok ?_) | (refine rgT ?_;intro K hK) | (refine dA ?_;intro K hK) | (with_reducible refine hK _ ?_;clear hK K) | (refine stq ?_;simp (disch:=(first | omega | (simp;omega))) only [go_sem,w64]) | refine as1 ?_ | fail)
 (refine callL 7 (l7AnyA) ?_)
 rintro r os ⟨⟨nv,xs,us,hA,rfl⟩,rfl⟩
 have a1:=hA.a1
 refine ⟨by decide,?_⟩
 repeat' (first | refine sq ?_ | refine stp ?_ | refine blk_o (by decide) ?_ | (apply cb;(focus (simp (disch:=(first | omega | (simp;omega))) only [go_sem,w64,queryD];try exact rfl));refine cok ?_) | (refine rgT ?_;intro K hK) | (refine dA ?_;intro K hK) | (with_reducible refine hK _ ?_;clear hK K) | (refine stq ?_;simp (disch:=(first | omega | (simp;omega))) only [go_sem,w64,queryD]) | refine as1 ?_ | fail)
 (refine callDL (j:=0) 7 (l1BelowA 14) ?_ ?_)
 ·exact ⟨_,_,0,⟨by omega,fun _=>rfl,fun h=>h⟩,rfl,rfl⟩
 rintro r os ⟨x,⟨hx0,_,hx1⟩,rfl,rfl⟩
 have hx2:=hx1 (by omega)
 have wd:IntKind.i64.wrap (x.tdiv 13)=x / 13:=tdiv_w ⟨hx0,by omega,by omega⟩
 have w1:IntKind.i64.wrap ((xs.length:Nat)+x / 13)=(xs.length:Nat)+x / 13:=w64 (by omega)
 refine ⟨[],rfl,by decide,?_⟩
 repeat' (first | refine sq ?_ | refine stp ?_ | refine blk_o (by decide) ?_ | (apply cb;(focus (simp (disch:=(first | omega | (simp;omega))) only [go_sem,w64,wd,w1];try exact rfl));refine cok ?_) | (refine rgT ?_;intro K hK) | (refine dA ?_;intro K hK) | (with_reducible refine hK _ ?_;clear hK K) | (refine stq ?_;simp (disch:=(first | omega | (simp;omega))) only [go_sem,w64,wd,w1]) | refine as1 ?_ | fail)
 (refine callDL (j:=0) 7 (l12WeightsW ((xs.length:Nat)+x / 13) (by omega)) ?_ ?_)
 ·exact ⟨_,_,[],by simp,fun i _ hi=>absurd hi (Nat.not_lt_zero _),rfl,rfl⟩
 rintro r os ⟨sz,hsz,hws,rfl,rfl⟩
 refine ⟨[],rfl,by decide,?_⟩
 repeat' (first | refine sq ?_ | refine stp ?_ | refine blk_o (by decide) ?_ | (apply cb;(focus (simp (disch:=(first | omega | (simp;omega))) only [go_sem,w64,queryD];try exact rfl));refine cok ?_) | (refine rgT ?_;intro K hK) | (refine dA ?_;intro K hK) | (with_reducible refine hK _ ?_;clear hK K) | (refine stq ?_;simp (disch:=(first | omega | (simp;omega))) only [go_sem,w64,queryD]) | refine as1 ?_ | fail)
 refine end0 0 (.inr rfl) (by simp (disch:=(first | omega | (simp;omega))) only [go_sem,w64];rfl) (r:=.tup [.d (queryD nv xs us),.d (ratsD sz)]) (by simp (disch:=(first | omega | (simp;omega))) only [go_sem,w64,queryD];exact .refl _) ⟨nv,xs,us,sz,hA,hsz,hws,rfl,rfl⟩
abbrev pkT:Pk:=⟨false,fun _=>True⟩
theorem nod_code (l:List Int):NoD (.d (.sl 1 (l.map .byte))):=fun G w v hv=>by
 obtain ⟨x,h1,h2,h3⟩:=nod_anyB (P:=fun x=>x=.sl 1 (l.map .byte)) (fun x h=>⟨l,h⟩) G w v ⟨_,rfl,fun m e=>(by cases e),cvSl.1 hv⟩
 subst h1
 exact cvSl.2 h3
theorem csims_ratsT:∀ {l:List RatD} {m:List DV},CSims pkT (l.map ratDV) m→∃ l':List RatD,m=l'.map ratDV∧l'.length=l.length
 | [],m,h=>by obtain rfl:=h;exact ⟨[],rfl,rfl⟩
 | x :: l,m,h=>by
  obtain ⟨_,m',rfl,⟨g,rfl,hg⟩,h2⟩:=h
  obtain ⟨_,_,rfl,⟨z1,rfl,_⟩,_,_,rfl,⟨z2,rfl,_⟩,rfl⟩:=hg
  obtain ⟨l',rfl,e1⟩:=csims_ratsT h2
  exact ⟨⟨z1,z2⟩ :: l',rfl,by simp [e1]⟩
set_option maxHeartbeats 4000000 in
theorem drawPakA (code:List Int) (hl:code.length≤1048576):AFn 7 [.d (.sl 1 (code.map .byte))] [] (fun r os=>∃ (nv:Int) (xs:List AtomD) (us:List Int) (w:List RatD),QAny nv xs us∧w.length≤1000∧r=.tup [.d (queryD nv xs us),.d (ratsD w)]∧os=[]):=by
 refine afn_ofC (rv:=[.cell 2 27,.tmp 3]) tyT_ok Tryd.func7 rfl (by decide +kernel) Tryd.ntmps7 rfl (by simp) (by intro x hx;simp only [List.mem_singleton] at hx;subst hx;exact nod_code code) (fun l hl=>(by cases hl)) ?_
 repeat' (first | refine sq ?_ | refine stp ?_ | refine blk_o (by decide) ?_ | (apply cb;(focus (simp (disch:=(first | omega | (simp;omega))) only [go_sem,w64];try exact rfl));refine cok ?_) | (refine rgT ?_;intro K hK) | (refine dA ?_;intro K hK) | (with_reducible refine hK _ ?_;clear hK K) | (refine stq ?_;simp (disch:=(first | omega | (simp;omega))) only [go_sem,w64]) | refine as1 ?_ | fail)
 refine call2 (l1NewA code hl) ?_
 repeat' (first | refine sq ?_ | refine stp ?_ | refine blk_o (by decide) ?_ | (apply cb;(focus (simp (disch:=(first | omega | (simp;omega))) only [go_sem,w64];try exact rfl));refine cok ?_) | (refine rgT ?_;intro K hK) | (refine dA ?_;intro K hK) | (with_reducible refine hK _ ?_;clear hK K) | (refine stq ?_;simp (disch:=(first | omega | (simp;omega))) only [go_sem,w64]) | refine as1 ?_ | fail)
 (refine callL 9 (l7AnyA) ?_)
 rintro r os ⟨⟨nv,xs,us,hA,rfl⟩,rfl⟩
 refine ⟨by decide,?_⟩
 repeat' (first | refine sq ?_ | refine stp ?_ | refine blk_o (by decide) ?_ | (apply cb;(focus (simp (disch:=(first | omega | (simp;omega))) only [go_sem,w64,queryD];try exact rfl));refine cok ?_) | (refine rgT ?_;intro K hK) | (refine dA ?_;intro K hK) | (with_reducible refine hK _ ?_;clear hK K) | (refine stq ?_;simp (disch:=(first | omega | (simp;omega))) only [go_sem,w64,queryD]) | refine as1 ?_ | fail)
 (refine callL 9 (l12WeightsW (if 0<(if nv<6 then nv else 6) then (if nv<6 then nv else 6) else 0) (by split <;> split <;> omega)) ?_)
 rintro r os ⟨w,hw,_,rfl,rfl⟩
 refine ⟨by decide,?_⟩
 repeat' (first | refine sq ?_ | refine stp ?_ | refine blk_o (by decide) ?_ | (apply cb;(focus (simp (disch:=(first | omega | (simp;omega))) only [go_sem,w64,queryD,intsD,ratsD];try exact rfl));refine cok ?_) | (refine rgT ?_;intro K hK) | (refine dA ?_;intro K hK) | (with_reducible refine hK _ ?_;clear hK K) | (refine stq ?_;simp (disch:=(first | omega | (simp;omega))) only [go_sem,w64,queryD,intsD,ratsD]) | refine as1 ?_ | fail)
 (refine callL 9 (l1OnceA 2) ?_)
 rintro r os ⟨b,rfl,rfl⟩
 refine ⟨by decide,?_⟩
 cases b with
 | false =>
  repeat' (first | refine sq ?_ | refine stp ?_ | refine blk_o (by decide) ?_ | (apply cb;(focus (simp (disch:=(first | omega | (simp;omega))) only [go_sem,w64,queryD,intsD,ratsD];try exact rfl));refine cok ?_) | (refine rgT ?_;intro K hK) | (refine dA ?_;intro K hK) | (with_reducible refine hK _ ?_;clear hK K) | (refine stq ?_;simp (disch:=(first | omega | (simp;omega))) only [go_sem,w64,queryD,intsD,ratsD]) | refine as1 ?_ | fail)
  refine end0 0 (.inr rfl) (by simp (disch:=(first | omega | (simp;omega))) only [go_sem,w64];rfl) (r:=.tup [.d (queryD nv xs us),.d (ratsD w)]) (by simp (disch:=(first | omega | (simp;omega))) only [go_sem,w64,queryD,intsD,ratsD];exact .refl _) ⟨nv,xs,us,w,hA,hw,rfl,rfl⟩
 | true =>
  repeat' (first | refine sq ?_ | refine stp ?_ | refine blk_o (by decide) ?_ | (apply cb;(focus (simp (disch:=(first | omega | (simp;omega))) only [go_sem,w64,queryD,intsD,ratsD];try exact rfl));refine cok ?_) | (refine rgT ?_;intro K hK) | (refine dA ?_;intro K hK) | (with_reducible refine hK _ ?_;clear hK K) | (refine stq ?_;simp (disch:=(first | omega | (simp;omega))) only [go_sem,w64,queryD,intsD,ratsD]) | refine as1 ?_ | fail)
  refine awp_loopw (fun mm s=>∃ (i:Nat) (nv:Int) (xs:List AtomD) (us:List Int) (w:List RatD),mm=w.length - i∧i≤w.length∧w.length≤1000∧QAny nv xs us∧s=mkS [(2,.ptr 2 0),(5,.ptr 5 0),(6,.d (.sl 2 (w.map ratDV))),(7,.d (.int (i:Nat)))] [(2,[.d (.int 0),.nil,.nil]),(5,[.d (.int nv),.d (.sl 2 (xs.map atomDV)),.d (.sl 1 (us.map .int))])]) ?_ ?_
  ·refine ⟨_,_,?_,0,nv,xs,us,w,rfl,Nat.zero_le _,hw,hA,rfl⟩
   exact sleA
  ·rintro mm s ⟨i,nv,xs,us,w,rfl,hi,hw,hA,rfl⟩
   have hwm:(w.map ratDV).length=w.length:=List.length_map ..
   have w4:IntKind.i64.wrap ((i:Int)+1)=((i+1:Nat):Int):=by rw [w64 (by omega)];rfl
   repeat' (first | refine sq ?_ | refine stp ?_ | refine blk_o (by decide) ?_ | (apply cb;(focus (simp (disch:=(first | omega | (simp;omega))) only [go_sem,w64,hwm];try exact rfl));refine cok ?_) | (refine rgT ?_;intro K hK) | (refine dA ?_;intro K hK) | (with_reducible refine hK _ ?_;clear hK K) | (refine stq ?_;simp (disch:=(first | omega | (simp;omega))) only [go_sem,w64,hwm]) | refine as1 ?_ | fail)
   refine awp_if (p:=(i:Int)<(w.length:Nat)) (by simp (disch:=(first | omega | (simp;omega))) only [go_sem,w64,hwm]) ?_ ?_ <;> intro hc
   ·have hi2:i<w.length:=by omega
    have g1:(w.map ratDV).getD i (.bool false)=ratDV (qx w i):=getDq hi2
    have hm:=specMulA (qx w i) ⟨1,3⟩
    generalize mulQ (qx w i) ⟨1,3⟩=z at *
    generalize qx w i=y at *
    repeat' (first | refine sq ?_ | refine stp ?_ | refine blk_o (by decide) ?_ | (apply cb;(focus (simp (disch:=(first | omega | (simp;omega))) only [go_sem,w64];try exact rfl));refine cok ?_) | (with_reducible refine hK _ ?_;clear hK K) | (refine stq ?_;simp (disch:=(first | omega | (simp;omega))) only [go_sem,w64]) | refine as1 ?_ | fail)
    refine awp_regionX (o:=?p1) tyT_ok 12 ?q1 ?q2 ?q3
    case q1=>rfl
    case q2=>rfl
    intro K hK
    repeat' (first | refine sq ?_ | refine stp ?_ | refine blk_o (by decide) ?_ | (apply cb;(focus (simp (disch:=(first | omega | (simp;omega))) only [go_sem,w64,hwm,g1,ratDV];try exact rfl));refine cok ?_) | (with_reducible refine hK _ ?_;clear hK K) | (refine stq ?_;simp (disch:=(first | omega | (simp;omega))) only [go_sem,w64,hwm,g1,ratDV]) | refine as1 ?_ | fail)
    (first | refine callA (hm) ?_ | refine callD (hm) ?_ | refine callE (hm) ?_ | refine callF (hm) ?_ ?_)
    repeat' (first | refine sq ?_ | refine stp ?_ | refine blk_o (by decide) ?_ | (apply cb;(focus (simp (disch:=(first | omega | (simp;omega))) only [go_sem,w64,hwm,g1,ratDV,tupQ];try exact rfl));refine cok ?_) | (with_reducible refine hK _ ?_;clear hK K) | (refine stq ?_;simp (disch:=(first | omega | (simp;omega))) only [go_sem,w64,hwm,g1,ratDV,tupQ]) | refine as1 ?_ | fail)
    refine LStep.weak (s0:=mkS [(2,.ptr 2 0),(5,.ptr 5 0),(6,.d (.sl 2 (w.map ratDV))),(7,.d (.int (i:Nat))),(35,.d (.agg [.int (rq z).num,.int (rq z).den])),(37,.loc [.int y.num,.int y.den])] [(2,[.d (.int 0),.nil,.nil]),(5,[.d (.int nv),.d (.sl 2 (xs.map atomDV)),.d (.sl 1 (us.map .int))])]) (by exact sleA) ?_
    refine lstep_poke tyT_ok pkT (T:=33) (p:=.tmp 37) (x:=.tmp 35) (y:=ratDV (rq z)) rfl rfl rfl rfl rfl rfl rfl (by decide) (by exact Nat.le_refl 2) rfl (fun _ _=>trivial) ?_
    intro s' hs'
    obtain ⟨l2,ho2,_,_,rfl,⟨_,rfl,rfl⟩,_,_,rfl,rfl,_,_,rfl,rfl,rfl⟩:=ssim_ob 2 hs' rfl
    obtain ⟨l5,ho5,_,_,rfl,⟨_,rfl,rfl⟩,_,_,rfl,⟨_,rfl,ra,rfl,hra⟩,_,_,rfl,⟨_,rfl,rb,rfl,hrb⟩,rfl⟩:=ssim_ob 5 hs' rfl
    have t2:s'.tm 2=.ptr 2 0:=ssim_tm 2 hs' rfl
    have t5:s'.tm 5=.ptr 5 0:=ssim_tm 5 hs' rfl
    obtain ⟨_,t6,rw6,rfl,hw6⟩:=ssim_tm 6 hs' rfl
    obtain ⟨_,t7,rfl⟩:=ssim_tm 7 hs' rfl
    obtain ⟨xs',rfl,hl',hr'⟩:=csims_atoms hra
    obtain ⟨us',rfl,hu'⟩:=csims_ints hrb
    obtain ⟨w',rfl,hwl⟩:=csims_ratsT hw6
    have hA':=hA.sim hl' hr' hu'
    refine hK _ ?_
    clear hK
    repeat' (first | refine sq ?_ | refine stp ?_ | refine blk_o (by decide) ?_ | (apply cb;(focus (simp (disch:=(first | omega | (simp;omega))) only [go_sem,w64];try exact rfl));refine cok ?_) | (with_reducible refine hK _ ?_;clear hK K) | (refine stq ?_;simp (disch:=(first | omega | (simp;omega))) only [go_sem,w64]) | refine as1 ?_ | fail)
    refine awp_weak (s':=mkS [(2,.ptr 2 0),(5,.ptr 5 0),(6,.d (.sl 2 (w'.map ratDV))),(7,.d (.int (i:Nat)))] [(2,[.d (.int 0),.nil,.nil]),(5,[.d (.int nv),.d (.sl 2 (xs'.map atomDV)),.d (.sl 1 (us'.map .int))])]) (sle_mk ⟨t2 ▸ .refl _,t5 ▸ .refl _,t6 ▸ .refl _,t7 ▸ .refl _,trivial⟩ ⟨⟨_,ho2,ales_eq rfl⟩,⟨_,ho5,ales_eq rfl⟩,trivial⟩) ?_
    repeat' (first | refine sq ?_ | refine stp ?_ | refine blk_o (by decide) ?_ | (apply cb;(focus (simp (disch:=(first | omega | (simp;omega))) only [go_sem,w64,w4];try exact rfl));refine cok ?_) | (refine rgT ?_;intro K hK) | (refine dA ?_;intro K hK) | (with_reducible refine hK _ ?_;clear hK K) | (refine stq ?_;simp (disch:=(first | omega | (simp;omega))) only [go_sem,w64,w4]) | refine as1 ?_ | fail)
    refine ⟨w'.length - (i+1),_,by omega,?_,i+1,nv,xs',us',w',rfl,by omega,by omega,hA',rfl⟩
    exact sleA
   ·obtain rfl:i=w.length:=by omega
    repeat' (first | refine sq ?_ | refine stp ?_ | refine blk_o (by decide) ?_ | (apply cb;(focus (simp (disch:=(first | omega | (simp;omega))) only [go_sem,w64];try exact rfl));refine cok ?_) | (refine rgT ?_;intro K hK) | (refine dA ?_;intro K hK) | (with_reducible refine hK _ ?_;clear hK K) | (refine stq ?_;simp (disch:=(first | omega | (simp;omega))) only [go_sem,w64]) | refine as1 ?_ | fail)
    refine end0 0 (.inr rfl) (by simp (disch:=(first | omega | (simp;omega))) only [go_sem,w64];rfl) (r:=.tup [.d (queryD nv xs us),.d (ratsD w)]) (by simp (disch:=(first | omega | (simp;omega))) only [go_sem,w64,queryD,intsD,ratsD];exact .refl _) ⟨nv,xs,us,w,hA,hw,rfl,rfl⟩
end Go.Proofs.YtkohkoiegmcghaaDoor
namespace Go.Proofs.YtkohkoiegmcghaaDoor
set_option linter.unusedSimpArgs false
set_option linter.unusedVariables false
attribute [local go_sem ↓] reduceIte
attribute [local go_sem] Nat.reduceEqDiff Nat.reduceLT Nat.reduceAdd Nat.reduceLeDiff Nat.reduceMul Nat.reduceBEq Nat.reduceSub reduceCtorEq Int.reduceLE Int.reduceNeg Int.reduceLT
open Go.RowKit
noncomputable def mcF (nv:Int) (xs:List AtomD) (us:List Int):BestS:=mnF (cpF nv xs us).A (cpF nv xs us).B (cpF nv xs us).C
noncomputable def dpF (nv:Int) (xs:List AtomD) (us:List Int):LpS:=dlF (cpF nv xs us).A (cpF nv xs us).B (cpF nv xs us).C
noncomputable def mpF (nv:Int) (xs:List AtomD) (us:List Int):BestS:=mxF (dpF nv xs us).A (dpF nv xs us).B (dpF nv xs us).C
structure SmallP (p:LpS):Prop where
 a:p.A.length≤1048576
 r:∀ i,i<p.A.length→(mx p.A i).length≤1048576
 b:p.B.length≤1048576
 c:p.C.length≤1048576
theorem small0:SmallP ⟨[],[],[],false⟩:=⟨Nat.zero_le _,fun i hi=>absurd hi (Nat.not_lt_zero _),Nat.zero_le _,Nat.zero_le _⟩
theorem cp_small (nv:Int) (xs:List AtomD) (us:List Int):SmallP (cpF nv xs us):=by
 unfold cpF
 split
 ·rename_i h
  obtain ⟨v,x1,x2⟩:=qOK_sz h
  refine ⟨?_,fun i hi=>?_,?_,?_⟩
  ·simp [cvA,idTo_len];omega
  ·have hi2:i<(idTo nv.toNat).length:=by simpa [cvA] using hi
   have:mx (cvA (idTo nv.toNat) xs) i=rowC xs (idTo nv.toNat)[i]:=by simp [mx,cvA,hi2,List.getD]
   rw [this];simp [rowC];omega
  ·simp;omega
  ·simp;omega
 ·exact small0
theorem tr_len (A:List (List RatD)) (n:Nat):(trQ A n).length=n:=by simp [trQ]
theorem dl_small {A:List (List RatD)} {B C:List RatD} (hA:A.length≤1048576) (hB:B.length≤1048576) (hC:C.length≤1048576):SmallP (dlF A B C):=by
 unfold dlF
 split
 ·refine ⟨?_,fun i hi=>?_,hC,hB⟩
  ·rw [tr_len];exact hC
  ·have hi2:i<C.length:=by rw [tr_len] at hi;exact hi
   have:mx (trQ A C.length) i=A.map fun r=>qx r i:=by simp [mx,trQ,hi2,List.getD]
   rw [this,List.length_map];exact hA
 ·exact small0
theorem dp_small (nv:Int) (xs:List AtomD) (us:List Int):SmallP (dpF nv xs us):=dl_small (cp_small nv xs us).a (cp_small nv xs us).b (cp_small nv xs us).c
theorem mp_sz (nv:Int) (xs:List AtomD) (us:List Int):(mpF nv xs us).pt.length≤1048576:=mxF_sz _ _ _
section
variable (nv:Int) (xs:List AtomD) (us:List Int) (hn:NmOK xs)
include hn
set_option maxRecDepth 100000 in
set_option maxHeartbeats 2000000 in
theorem implMaxPackG:AFnG 12 [.d (queryD nv xs us)] (fun r os=>r=ansB (mpF nv xs us)∧os=[]):=by
 refine afn_ofG (rv:=[.tmp 2,.cell 3 33,.tmp 4]) tyW_ok Tryd.func12 rfl (by decide +kernel) Tryd.ntmps12 rfl (by simp) ?_
 have hcv:=implCoverG nv xs us hn
 have hsm:=cp_small nv xs us
 have hsd:=dp_small nv xs us
 unfold mpF dpF at *
 generalize cpF nv xs us=p at *
 obtain ⟨pa,pr,pb,pc⟩:=hsm
 have hdu:=implDualA p.A p.B p.C pa pr pb pc
 generalize dlF p.A p.B p.C=d at *
 obtain ⟨da,dr,db,dc⟩:=hsd
 have hmn:=implMaxA d.A d.B d.C da dr db dc
 generalize mxF d.A d.B d.C=F at *
 repeat' (first | refine sq ?_ | refine stp ?_ | refine blk_o (by decide) ?_ | (apply cb;(focus (simp (disch:=(first | omega | (simp;omega))) only [go_sem,w64];try exact rfl));refine cok ?_) | (with_reducible refine hK _ ?_;clear hK K) | (refine stq ?_;simp (disch:=(first | omega | (simp;omega))) only [go_sem,w64]) | refine as1 ?_ | fail)
 refine awp_region' tyW_ok ?_;intro K hK
 repeat' (first | refine sq ?_ | refine stp ?_ | refine blk_o (by decide) ?_ | (apply cb;(focus (simp (disch:=(first | omega | (simp;omega))) only [go_sem,w64,queryD,intsD];try exact rfl));refine cok ?_) | (with_reducible refine hK _ ?_;clear hK K) | (refine stq ?_;simp (disch:=(first | omega | (simp;omega))) only [go_sem,w64,queryD,intsD]) | refine as1 ?_ | fail)
 refine awp_regionY (o:=?o) tyW_ok 1 ?h1 ?h2 ?h3
 case h1=>rfl
 case h2=>rfl
 intro K K2 hK hK2
 repeat' (first | refine sq ?_ | refine stp ?_ | refine blk_o (by decide) ?_ | (apply cb;(focus (simp (disch:=(first | omega | (simp;omega))) only [go_sem,w64];try exact rfl));refine cok ?_) | (with_reducible refine hK _ ?_;clear hK K) | (refine stq ?_;simp (disch:=(first | omega | (simp;omega))) only [go_sem,w64]) | refine as1 ?_ | fail)
 refine lcallG 11 rfl rfl rfl (by decide) hcv (by (repeat (first | exact ASubs.nil | refine ASubs.cons (by first | exact ASub.d _ | exact ASub.dd (dle_wh _ _) | exact ASub.dd (dle_rowsV _) | exact ASub.dd (dle_rowsW _) | exact ASub.dd (dle_relW _ _) | exact ASub.bufd _ _ (dle_rowsV _) | exact ASub.nil _ | exact ASub.nn | exact ASub.buf _ _ _ _ | exact ASub.loc _ | exact ASub.ptr _ _ _ rfl | exact ASub.arr _ _ _ _ rfl | exact ASub.any _ | exact ASub.std rfl (dle_refl _)) ?_));done) ?_
 rintro r os ⟨rfl,rfl⟩
 refine ⟨by simp,hK2 _ ?_⟩
 clear hK2 K2
 repeat' (first | refine sq ?_ | refine stp ?_ | refine blk_o (by decide) ?_ | (apply cb;(focus (simp (disch:=(first | omega | (simp;omega))) only [go_sem,w64,ansP,lpD,matD,ratsD];try exact rfl));refine cok ?_) | (refine rgW ?_;intro K hK) | (refine dA ?_;intro K hK) | (with_reducible refine hK _ ?_;clear hK K) | (refine stq ?_;simp (disch:=(first | omega | (simp;omega))) only [go_sem,w64,ansP,lpD,matD,ratsD]) | refine as1 ?_ | fail)
 (first | refine callA (hdu) ?_ | refine callD (hdu) ?_ | refine callE (hdu) ?_ | refine callF (hdu) ?_ ?_)
 repeat' (first | refine sq ?_ | refine stp ?_ | refine blk_o (by decide) ?_ | (apply cb;(focus (simp (disch:=(first | omega | (simp;omega))) only [go_sem,w64,ansP,lpD,matD,ratsD];try exact rfl));refine cok ?_) | (refine rgW ?_;intro K hK) | (refine dA ?_;intro K hK) | (with_reducible refine hK _ ?_;clear hK K) | (refine stq ?_;simp (disch:=(first | omega | (simp;omega))) only [go_sem,w64,ansP,lpD,matD,ratsD]) | refine as1 ?_ | fail)
 (first | refine callA (hmn) ?_ | refine callD (hmn) ?_ | refine callE (hmn) ?_ | refine callF (hmn) ?_ ?_)
 repeat' (first | refine sq ?_ | refine stp ?_ | refine blk_o (by decide) ?_ | (apply cb;(focus (simp (disch:=(first | omega | (simp;omega))) only [go_sem,w64,ansB,ratDV];try exact rfl));refine cok ?_) | (refine rgW ?_;intro K hK) | (refine dA ?_;intro K hK) | (with_reducible refine hK _ ?_;clear hK K) | (refine stq ?_;simp (disch:=(first | omega | (simp;omega))) only [go_sem,w64,ansB,ratDV]) | refine as1 ?_ | fail)
 (refine endA (r:=.tup [.d (whQ F.pt),.d (.agg [.int F.val.num,.int F.val.den]),.d (.bool F.found)]) ?_)
 exact ⟨rfl,rfl⟩
end
end Go.Proofs.YtkohkoiegmcghaaDoor
namespace Go.Proofs.YtkohkoiegmcghaaDoor
set_option linter.unusedSimpArgs false
set_option linter.unusedVariables false
open Go.ChangeShapes Go.WideShapes Go.ChangeAt Go.RowKit Go.Deep
theorem own:ownKnob Tryd.prog.godebug=none:=by kernel_rfl
theorem laidOut:laidOutB Tryd.prog=true:=by kernel_rfl
def ReadsBy {α:Type} (R:Rep α) (t:TypeId):Prop :=
 ∀ {H:Type} (enc:TypeId×Value→H) (W:World) (fuel:Nat) (cs:List Value) (x:DataW H×List MemPlace),DataW.trod enc Tryd.prog W 0 (fun _=>true) true fuel t cs=some x→∃ y,R false 0 W.heap.size W cs y
theorem cells_at {w:World} {base:Nat} {a:Addr} {k:Nat} {cs:List Value} (h:w.cells? base a k=some cs):cs.length=k∧∀ j,j<k→w.cell? (a.add j)=some (cs.getD j undef):=by
 obtain ⟨_,hlen,hc⟩:=World.cells?_some h
 exact ⟨hlen,fun j hj=>by
  have:=hc j (by omega)
  simpa [List.getD,List.getElem?_eq_getElem (show j<cs.length by omega)] using this⟩
theorem reads_slice {α:Type} {R:Rep α} {t e k:Nat} (ht:Tryd.prog.underlying t=some (.slice e)) (hk:Tryd.prog.cellsOf e=k) (hk0:0<k) (hR:ReadsBy R e) :
 ∀ {H:Type} (enc:TypeId×Value→H) (W:World) (fuel:Nat) (cs:List Value) (x:DataW H×List MemPlace),DataW.trod enc Tryd.prog W 0 (fun _=>true) true fuel t cs=some x →
  ∃ a n c xs,cs=[.slice a n c]∧SlA k R false 0 W.heap.size W a n c xs:=by
 intro H enc W fuel cs x h
 rcases open_slice ht h with ⟨hcs,_⟩ | ⟨a,len,cap,m,n,D,Pl,rfl,_,hl,hm,hmm,_,hx⟩
 ·exact ⟨none,0,0,[],hcs,rfl,Nat.le_refl _,by simp [maxLen],fun h=>by omega,fun _=>rfl⟩
 ·simp only [if_true] at hmm
  subst hmm
  rw [hk] at hx
  have each:∀ i,i<m→∃ y:List Value×α,y.1.length=k∧R false 0 W.heap.size W y.1 y.2∧∀ j,j<k→W.cell? ((a.add (i*k)).add j)=some (y.1.getD j undef):=by
   intro i hi
   obtain ⟨cs',h1,h2⟩:=hx i hi
   obtain ⟨y,hy⟩:=hR enc W n cs' _ h2
   obtain ⟨g1,g2⟩:=cells_at h1
   exact ⟨(cs',y),g1,hy,g2⟩
  refine ⟨some a,len,m,?_⟩
  by_cases hm0:m=0
  ·refine ⟨[],rfl,?_,hl,hm,fun h=>by omega,fun h=>(by cases h)⟩
   simp;omega
  ·haveI:Inhabited α:=⟨(Classical.choose (each 0 (by omega))).2⟩
   obtain ⟨y,hy⟩:=choose_lt each
   obtain ⟨b,off,spot⟩:=a
   have h1:=(hy 0 (by omega)).2.2 0 hk0
   have hspot:spot=none:=by
    cases spot with
    | none=>rfl
    | some s=>simp [Addr.add,World.cell?] at h1;split at h1 <;> simp at h1
   subst hspot
   have hblk:=World.block_lt_of_cell? W _ h1
   refine ⟨(List.range len).map fun i=>(y i).2,rfl,by simp,hl,hm,fun hn=>⟨b,off,rfl,Nat.zero_le _,by simpa [Addr.add] using hblk,fun i hi=>?_⟩,fun h=>(by cases h)⟩
   obtain ⟨g1,g2,g3⟩:=hy i (by omega)
   refine ⟨(y i).1,(y i).2,g1,by simp [hi],g2,fun j hj=>⟨?_,fun h=>(by cases h)⟩⟩
   have:=g3 j hj
   rwa [Addr.add_lit,Addr.add_lit] at this
end Go.Proofs.YtkohkoiegmcghaaDoor
namespace Go.Proofs.YtkohkoiegmcghaaDoor
set_option linter.unusedSimpArgs false
set_option linter.unusedVariables false
open Go.ChangeShapes Go.WideShapes Go.ChangeAt Go.RowKit Go.Deep
def byteR:Rep Int:=fun _ _ _ _ cs x=>cs=[.int .u8 x]∧0≤x∧x≤255
abbrev BytesA:=SlA 1 byteR
theorem u8_of_wf {x:Int} (h:(Lit.int .u8 x).wf=true):0≤x∧x≤255:=by
 simp [Lit.wf,IntKind.min,IntKind.max,IntKind.bits,IntKind.signed] at h
 omega
theorem cellsU8:Tryd.prog.cellsOf 5=1:=by kernel_rfl
theorem reads_byte:ReadsBy byteR 5:=by
 intro H enc W fuel cs x h
 obtain ⟨n,rfl,_,hw⟩:=DataW.trod_int Tryd.underlying5 h
 exact ⟨n,rfl,u8_of_wf hw⟩
theorem reads_bytes {H:Type} (enc:TypeId×Value→H) (W:World) (fuel:Nat) (cs:List Value) (x:DataW H×List MemPlace) (h:DataW.trod enc Tryd.prog W 0 (fun _=>true) true fuel 22 cs=some x) :
 ∃ a n c xs,cs=[.slice a n c]∧BytesA false 0 W.heap.size W a n c xs:=reads_slice Tryd.underlying22 cellsU8 (by omega) reads_byte enc W fuel cs x h
theorem bytes_cx {C:Nat→Nat→Prop} {fz:Bool} {lo hi:Nat} {w:World} {a:Option Addr} {n c:Nat} {xs:List Int} (h:BytesA fz lo hi w a n c xs) (hC:∀ b i,lo≤b→b<hi→C b i):CX C w (.sl 1 (xs.map .byte)) [.slice a n c]:=by
 have h1:=h.len
 obtain ⟨_,h2,h3,h4,h5⟩:=h
 have key:0<n→∃ b off,a=some ⟨b,off,none⟩∧lo≤b∧b<hi∧∀ i (hi':i<xs.length),(0≤xs[i]∧xs[i]≤255)∧w.cell? ⟨b,off+i,none⟩=some (.int .u8 xs[i]):=fun hn=>by
  obtain ⟨b,off,ha,hl,hb,hc⟩:=h4 hn
  refine ⟨b,off,ha,hl,hb,fun i hi'=>?_⟩
  obtain ⟨cs,x,g1,g2,⟨rfl,g3⟩,g4⟩:=hc i (by omega)
  rw [List.getElem?_eq_getElem hi'] at g2
  cases g2
  exact ⟨g3,by simpa using (g4 0 (by omega)).1⟩
 refine ⟨a,n,c,xs.map (fun x=>Value.int .u8 x),rfl,by simpa using h1,CXk.singles.2 ⟨by simp,fun i x hx=>?_⟩,by simp [h1],h2,h3,h5,?_,fun hn=>?_⟩
 ·rw [List.getElem?_map] at hx
  cases e:xs[i]? with
  | none=>rw [e] at hx;cases hx
  | some y =>
   rw [e] at hx;cases hx
   have hi':=(List.getElem?_eq_some_iff.1 e).1
   obtain ⟨b,off,_,_,_,hk⟩:=key (by omega)
   have hy:xs[i]=y:=(List.getElem?_eq_some_iff.1 e).2
   have:=(hk i hi').1
   rw [hy] at this
   exact ⟨.int .u8 y,by rw [List.getElem?_map,e];rfl,rfl,this⟩
 ·intro u hu
  obtain ⟨y,_,rfl⟩:=List.mem_map.1 hu
  rfl
 ·obtain ⟨b,off,ha,hl,hb,hk⟩:=key hn
  refine ⟨b,off,ha,fun i u hu=>⟨hC _ _ hl hb,?_⟩⟩
  rw [List.getElem?_map] at hu
  cases e:xs[i]? with
  | none=>rw [e] at hu;cases hu
  | some y =>
   rw [e] at hu;cases hu
   obtain ⟨hi',hy⟩:=List.getElem?_eq_some_iff.1 e
   have:=(hk i hi').2
   rw [hy] at this
   exact this
end Go.Proofs.YtkohkoiegmcghaaDoor
namespace Go.Proofs.YtkohkoiegmcghaaDoor
set_option linter.unusedSimpArgs false
set_option linter.unusedVariables false
attribute [local go_sem ↓] reduceIte
attribute [local go_sem] Nat.reduceEqDiff Nat.reduceLT Nat.reduceAdd Nat.reduceLeDiff Nat.reduceMul Nat.reduceBEq Nat.reduceSub reduceCtorEq Int.reduceLE Int.reduceNeg Int.reduceLT
open Go.RowKit
theorem law_of_afnG {f:FuncId} {args:List AV} {w:World} {vs:List Value} (h:AFnG f args (fun r os=>r=.d (.bool true)∧os=[])) (hg:GlobW w) (hv:∀ (G:Gh),G.C=(fun b _=>b<w.heap.size)→CVs G w args vs) :
 Calls Tryd.prog f vs.toArray w (Leaves w (.bool true)):=by
 refine (h.2 w ⟨fun b _=>b<w.heap.size,fun _=>.slice none 0 0,fun _=>0,fun _=>0,fun _=>0⟩ vs hg (hv _ rfl) (fun b i h=>h)).mono ?_
 rintro e w' ⟨v,r,os,G',rfl,hp⟩
 obtain ⟨rfl,rfl⟩:=hp.post
 obtain rfl:=cvBool.1 hp.res
 exact ⟨rfl,hp.fr.os,hp.fr.tape,hp.fr.output,hp.fr.size,fun k hk=>hp.fr.block k hk (fun ⟨i,hi,_⟩=>absurd hi (Nat.not_lt_zero _))⟩
theorem cv_mx {xs:List AtomD} {m v:Nat} (hv:v<m):mx (cvA (idTo m) xs) v=rowC xs v:=by simp [cvA,idTo,mx,List.getD,hv]
theorem cover_lp {nv:Int} {xs:List AtomD} {us:List Int} (h:qOK nv xs us=true):CoverLp nv.toNat xs.length (occP xs) (cvA (idTo nv.toNat) xs) (List.replicate nv.toNat q1) (List.replicate xs.length q1):=by
 obtain ⟨⟨v1,v2⟩,x1,x2⟩:=qOK_sz h
 obtain ⟨_,_,_,hc⟩:=qOK_out h
 refine ⟨by omega,by omega,by simp [cvA,idTo_len],fun v hv=>?_,rfl,rfl,fun v hv=>hc v (by omega)⟩
 rw [cv_mx hv]
 refine ⟨by simp [rowC],fun i hi=>?_⟩
 simp [rowC,qx,ax,List.getD,hi,occQ,occP]
section
variable (A:List (List RatD)) (B C x:List RatD) (hA:A.length≤1048576) (hr:∀ i,i<A.length→(mx A i).length≤1048576) (hB:B.length≤1048576) (hC:C.length≤1048576) (hx:x.length≤1048576)
include hA hr hB hC hx
end
end Go.Proofs.YtkohkoiegmcghaaDoor
