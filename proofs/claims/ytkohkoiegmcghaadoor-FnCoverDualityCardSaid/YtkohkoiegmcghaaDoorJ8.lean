/- Lemmas for the proof of FnCoverDuality, part 8 of 26: no condition of their own. -/
import Derived.Test.YtkohkoiegmcghaaDoorJ7
import Derived.Test.YtkohkoiegmcghaaDoorJ6
namespace Go.Proofs.YtkohkoiegmcghaaDoor
set_option linter.unusedSimpArgs false
set_option linter.unusedVariables false
attribute [local go_sem ↓] reduceIte
attribute [local go_sem] Nat.reduceEqDiff Nat.reduceLT Nat.reduceAdd Nat.reduceLeDiff Nat.reduceMul Nat.reduceBEq Nat.reduceSub reduceCtorEq Int.reduceLE Int.reduceNeg Int.reduceLT
open Go.RowKit
def rq (t:Int×Int×Bool):RatD:=⟨t.1,t.2.1⟩
def vR (x:RatD):Bool:=ratOK x.num x.den
def addQ (x y:RatD):Int×Int×Bool:=addR x.num x.den y.num y.den
def subQ (x y:RatD):Int×Int×Bool:=subR x.num x.den y.num y.den
def mulQ (x y:RatD):Int×Int×Bool:=mulR x.num x.den y.num y.den
def divQ (x y:RatD):Int×Int×Bool:=divR x.num x.den y.num y.den
def cmpQ (x y:RatD):Int:=cmpRat x.num x.den y.num y.den
def tupQ (t:Int×Int×Bool):AV:=.tup [.d (ratDV (rq t)),.d (.bool t.2.2)]
theorem cv_ratS {G:Gh} {w:World} {x:RatD} {v:Value} (h:CV G w (.d (ratDV x)) v):v=ratV x.num x.den∧I64 x.num∧I64 x.den:=by
 obtain ⟨us,h1,rfl⟩:=cvAgg.1 h
 obtain ⟨rfl,h2⟩:=cxs_two.1 h1
 exact ⟨rfl,h2⟩
def FitQ (t:Int×Int×Bool):Prop:=(t.2.2=true→ratOK t.1 t.2.1=true)∧(t.2.2=false→t.1=0∧t.2.1=0)
theorem FitQ.i64 {t:Int×Int×Bool} (h:FitQ t):I64 t.1∧I64 t.2.1:=by
 obtain ⟨a,b,c⟩:=t
 cases c with
 | true =>
  obtain ⟨h1,h2,_⟩:=ratOK_out (h.1 rfl)
  dsimp only at h1 h2
  exact ⟨by unfold I64;dsimp only;omega,by unfold I64;dsimp only;omega⟩
 | false =>
  obtain ⟨h1,h2⟩:=h.2 rfl
  simp only at h1 h2
  subst h1;subst h2
  unfold I64;simp
theorem fitNew (n d:Int):FitQ (newRat n d):=by
 unfold newRat
 dsimp only
 repeat' split
 all_goals first | exact ⟨fun h=>(by cases h),fun _=>⟨rfl,rfl⟩⟩ | exact ⟨fun _=>(by assumption),fun h=>(by cases h)⟩
theorem fitNo:FitQ (0,0,false):=⟨fun h=>(by cases h),fun _=>⟨rfl,rfl⟩⟩
theorem fitAdd (x y:RatD):FitQ (addQ x y):=by unfold addQ addR;split;exact fitNew _ _;exact fitNo
theorem fitSub (x y:RatD):FitQ (subQ x y):=by unfold subQ subR addR;split;exact fitNew _ _;exact fitNo
theorem fitMul (x y:RatD):FitQ (mulQ x y):=by unfold mulQ mulR;split;exact fitNew _ _;exact fitNo
theorem fitDiv (x y:RatD):FitQ (divQ x y):=by unfold divQ divR;split;exact fitNew _ _;exact fitNo
theorem withinR (x lo hi:Int):AFn 56 [.d (.int x),.d (.int lo),.d (.int hi)] [] (fun r os=>r=.d (.bool (decide (lo≤x∧x≤hi)))∧os=[]):=by
 refine afn_of (rv:=[.tmp 6]) tyT_ok Tryd.func56 rfl (by decide +kernel) Tryd.ntmps56 rfl (by simp) ?_
 by_cases h1:lo≤x
 ·have h1t:lo≤x↔True:=iff_of_true h1 trivial
  repeat' (first | refine sq ?_ | refine stp ?_ | refine blk_o (by decide) ?_ | (apply cb;(focus (simp (disch:=(first | omega | (simp;omega))) only [go_sem,w64,h1t];try exact rfl));refine cok ?_) | (refine rgT ?_;intro K hK) | (refine dA ?_;intro K hK) | (with_reducible refine hK _ ?_;clear hK K) | (refine stq ?_;simp (disch:=(first | omega | (simp;omega))) only [go_sem,w64,h1t]) | refine as1 ?_ | fail)
  (refine endA (r:=.d (.bool (decide (x≤hi)))) ?_)
  exact ⟨by simp [h1],rfl⟩
 ·have h1f:lo≤x↔False:=iff_of_false h1 id
  repeat' (first | refine sq ?_ | refine stp ?_ | refine blk_o (by decide) ?_ | (apply cb;(focus (simp (disch:=(first | omega | (simp;omega))) only [go_sem,w64,h1f];try exact rfl));refine cok ?_) | (refine rgT ?_;intro K hK) | (refine dA ?_;intro K hK) | (with_reducible refine hK _ ?_;clear hK K) | (refine stq ?_;simp (disch:=(first | omega | (simp;omega))) only [go_sem,w64,h1f]) | refine as1 ?_ | fail)
  (refine endA (r:=.d (.bool false)) ?_)
  exact ⟨by simp [h1],rfl⟩
theorem inR (x lo hi:Int):AFn 41 [.d (.int x),.d (.int lo),.d (.int hi)] [] (fun r os=>r=.d (.bool (decide (lo≤x∧x≤hi)))∧os=[]):=by
 refine afn_of (rv:=[.tmp 6]) tyT_ok Tryd.func41 rfl (by decide +kernel) Tryd.ntmps41 rfl (by simp) ?_
 by_cases h1:lo≤x
 ·have h1t:lo≤x↔True:=iff_of_true h1 trivial
  repeat' (first | refine sq ?_ | refine stp ?_ | refine blk_o (by decide) ?_ | (apply cb;(focus (simp (disch:=(first | omega | (simp;omega))) only [go_sem,w64,h1t];try exact rfl));refine cok ?_) | (refine rgT ?_;intro K hK) | (refine dA ?_;intro K hK) | (with_reducible refine hK _ ?_;clear hK K) | (refine stq ?_;simp (disch:=(first | omega | (simp;omega))) only [go_sem,w64,h1t]) | refine as1 ?_ | fail)
  (refine endA (r:=.d (.bool (decide (x≤hi)))) ?_)
  exact ⟨by simp [h1],rfl⟩
 ·have h1f:lo≤x↔False:=iff_of_false h1 id
  repeat' (first | refine sq ?_ | refine stp ?_ | refine blk_o (by decide) ?_ | (apply cb;(focus (simp (disch:=(first | omega | (simp;omega))) only [go_sem,w64,h1f];try exact rfl));refine cok ?_) | (refine rgT ?_;intro K hK) | (refine dA ?_;intro K hK) | (with_reducible refine hK _ ?_;clear hK K) | (refine stq ?_;simp (disch:=(first | omega | (simp;omega))) only [go_sem,w64,h1f]) | refine as1 ?_ | fail)
  (refine endA (r:=.d (.bool false)) ?_)
  exact ⟨by simp [h1],rfl⟩
theorem implGcdS (a b:Nat) (ha:a≤4000000000000000000) (hb:b≤4000000000000000000):AFn 72 [.d (.int a),.d (.int b)] [] (fun r os=>r=.d (.int (Nat.gcd a b:Nat))∧os=[]):=by
 refine afn_of (rv:=[.tmp 4]) tyT_ok Tryd.func72 rfl (by decide +kernel) Tryd.ntmps72 rfl (by simp) ?_
 repeat' (first | refine sq ?_ | refine stp ?_ | refine blk_o (by decide) ?_ | (apply cb;(focus (simp (disch:=(first | omega | (simp;omega))) only [go_sem,w64];try exact rfl));refine cok ?_) | (refine rgT ?_;intro K hK) | (refine dA ?_;intro K hK) | (with_reducible refine hK _ ?_;clear hK K) | (refine stq ?_;simp (disch:=(first | omega | (simp;omega))) only [go_sem,w64]) | refine as1 ?_ | fail)
 refine awp_loopw (fun m s=>∃ x y:Nat,m=y∧x≤4000000000000000000∧y≤4000000000000000000∧Nat.gcd x y=Nat.gcd a b∧s=mkS [(0,.d (.int x)),(1,.d (.int y))] []) ?_ ?_
 ·refine ⟨_,_,?_,a,b,rfl,ha,hb,rfl,rfl⟩
  exact sleA
 ·rintro m s ⟨x,y,hm,hx,hy,hg,rfl⟩
  repeat' (first | refine sq ?_ | refine stp ?_ | refine blk_o (by decide) ?_ | (apply cb;(focus (simp (disch:=(first | omega | (simp;omega))) only [go_sem,w64];try exact rfl));refine cok ?_) | (refine rgT ?_;intro K hK) | (refine dA ?_;intro K hK) | (with_reducible refine hK _ ?_;clear hK K) | (refine stq ?_;simp (disch:=(first | omega | (simp;omega))) only [go_sem,w64]) | refine as1 ?_ | fail)
  refine awp_cond (by simp (disch:=(first | omega | (simp;omega))) only [go_sem,w64];rfl) ?_ ?_ <;> intro hc
  ·have hy0:y ≠ 0:=by simpa using hc
   have e1:(x:Int).tmod (y:Int)=((x % y:Nat):Int):=by rw [Int.tmod_eq_emod_of_nonneg (by omega)];simp
   repeat' (first | refine sq ?_ | refine stp ?_ | refine blk_o (by decide) ?_ | (apply cb;(focus (simp (disch:=(first | omega | (simp;omega))) only [go_sem,w64,e1];try exact rfl));refine cok ?_) | (refine rgT ?_;intro K hK) | (refine dA ?_;intro K hK) | (with_reducible refine hK _ ?_;clear hK K) | (refine stq ?_;simp (disch:=(first | omega | (simp;omega))) only [go_sem,w64,e1]) | refine as1 ?_ | fail)
   refine ⟨x % y,_,by rw [hm];exact Nat.mod_lt _ (by omega),?_,y,x % y,rfl,hy,?_,?_,rfl⟩
   ·exact sleA
   ·have:=Nat.mod_lt x (show 0<y by omega);omega
   ·rw [← hg,Nat.gcd_comm x y,Nat.gcd_rec y x,Nat.gcd_comm]
  ·have hy0:y=0:=by simpa using hc
   subst hy0
   repeat' (first | refine sq ?_ | refine stp ?_ | refine blk_o (by decide) ?_ | (apply cb;(focus (simp (disch:=(first | omega | (simp;omega))) only [go_sem,w64];try exact rfl));refine cok ?_) | (refine rgT ?_;intro K hK) | (refine dA ?_;intro K hK) | (with_reducible refine hK _ ?_;clear hK K) | (refine stq ?_;simp (disch:=(first | omega | (simp;omega))) only [go_sem,w64]) | refine as1 ?_ | fail)
   refine end0 0 (.inr rfl) (by simp (disch:=(first | omega | (simp;omega))) only [go_sem,w64];rfl) (r:=.d (.int (Nat.gcd a b:Nat))) (by simp (disch:=(first | omega | (simp;omega))) only [go_sem,w64];exact ale_int (by rw [← hg];simp)) ⟨rfl,rfl⟩
theorem specGcdS (a b:Nat) (ha:a≤4000000000000000000) (hb:b≤4000000000000000000):AFn 69 [.d (.int a),.d (.int b)] [] (fun r os=>r=.d (.int (Nat.gcd a b:Nat))∧os=[]):=by
 refine afn_of (rv:=[.tmp 4]) tyT_ok Tryd.func69 rfl (by decide +kernel) Tryd.ntmps69 rfl (by simp) ?_
 repeat' (first | refine sq ?_ | refine stp ?_ | refine blk_o (by decide) ?_ | (apply cb;(focus (simp (disch:=(first | omega | (simp;omega))) only [go_sem,w64];try exact rfl));refine cok ?_) | (refine rgT ?_;intro K hK) | (refine dA ?_;intro K hK) | (with_reducible refine hK _ ?_;clear hK K) | (refine stq ?_;simp (disch:=(first | omega | (simp;omega))) only [go_sem,w64]) | refine as1 ?_ | fail)
 refine awp_loopw (fun m s=>∃ x y:Nat,m=y∧x≤4000000000000000000∧y≤4000000000000000000∧Nat.gcd x y=Nat.gcd a b∧s=mkS [(0,.d (.int x)),(1,.d (.int y))] []) ?_ ?_
 ·refine ⟨_,_,?_,a,b,rfl,ha,hb,rfl,rfl⟩
  exact sleA
 ·rintro m s ⟨x,y,hm,hx,hy,hg,rfl⟩
  repeat' (first | refine sq ?_ | refine stp ?_ | refine blk_o (by decide) ?_ | (apply cb;(focus (simp (disch:=(first | omega | (simp;omega))) only [go_sem,w64];try exact rfl));refine cok ?_) | (refine rgT ?_;intro K hK) | (refine dA ?_;intro K hK) | (with_reducible refine hK _ ?_;clear hK K) | (refine stq ?_;simp (disch:=(first | omega | (simp;omega))) only [go_sem,w64]) | refine as1 ?_ | fail)
  refine awp_cond (by simp (disch:=(first | omega | (simp;omega))) only [go_sem,w64];rfl) ?_ ?_ <;> intro hc
  ·have hy0:y ≠ 0:=by simpa using hc
   have e1:(x:Int).tmod (y:Int)=((x % y:Nat):Int):=by rw [Int.tmod_eq_emod_of_nonneg (by omega)];simp
   repeat' (first | refine sq ?_ | refine stp ?_ | refine blk_o (by decide) ?_ | (apply cb;(focus (simp (disch:=(first | omega | (simp;omega))) only [go_sem,w64,e1];try exact rfl));refine cok ?_) | (refine rgT ?_;intro K hK) | (refine dA ?_;intro K hK) | (with_reducible refine hK _ ?_;clear hK K) | (refine stq ?_;simp (disch:=(first | omega | (simp;omega))) only [go_sem,w64,e1]) | refine as1 ?_ | fail)
   refine ⟨x % y,_,by rw [hm];exact Nat.mod_lt _ (by omega),?_,y,x % y,rfl,hy,?_,?_,rfl⟩
   ·exact sleA
   ·have:=Nat.mod_lt x (show 0<y by omega);omega
   ·rw [← hg,Nat.gcd_comm x y,Nat.gcd_rec y x,Nat.gcd_comm]
  ·have hy0:y=0:=by simpa using hc
   subst hy0
   repeat' (first | refine sq ?_ | refine stp ?_ | refine blk_o (by decide) ?_ | (apply cb;(focus (simp (disch:=(first | omega | (simp;omega))) only [go_sem,w64];try exact rfl));refine cok ?_) | (refine rgT ?_;intro K hK) | (refine dA ?_;intro K hK) | (with_reducible refine hK _ ?_;clear hK K) | (refine stq ?_;simp (disch:=(first | omega | (simp;omega))) only [go_sem,w64]) | refine as1 ?_ | fail)
   refine end0 0 (.inr rfl) (by simp (disch:=(first | omega | (simp;omega))) only [go_sem,w64];rfl) (r:=.d (.int (Nat.gcd a b:Nat))) (by simp (disch:=(first | omega | (simp;omega))) only [go_sem,w64];exact ale_int (by rw [← hg];simp)) ⟨rfl,rfl⟩
theorem implAbsA (x:Int) (h:-4000000000000000000≤x∧x≤4000000000000000000):AFn 73 [.d (.int x)] [] (fun r os=>r=.d (.int (x.natAbs:Nat))∧os=[]):=by
 refine afn_of (rv:=[.tmp 2]) tyT_ok Tryd.func73 rfl (by decide +kernel) Tryd.ntmps73 rfl (by simp) ?_
 have wn:IntKind.i64.wrap (-x) = -x:=w64 (by omega)
 repeat' (first | refine sq ?_ | refine stp ?_ | refine blk_o (by decide) ?_ | (apply cb;(focus (simp (disch:=(first | omega | (simp;omega))) only [go_sem,w64,wn,max_abs];try exact rfl));refine cok ?_) | (refine rgT ?_;intro K hK) | (refine dA ?_;intro K hK) | (with_reducible refine hK _ ?_;clear hK K) | (refine stq ?_;simp (disch:=(first | omega | (simp;omega))) only [go_sem,w64,wn,max_abs]) | refine as1 ?_ | fail)
 (refine endA (r:=.d (.int (x.natAbs:Nat))) ?_)
 exact ⟨rfl,rfl⟩
theorem implValidRA (x:RatD):AFn 59 [.d (ratDV x)] [] (fun r os=>r=.d (.bool (vR x))∧os=[]):=by
 refine afn_of (rv:=[.tmp 2]) tyT_ok Tryd.func59 rfl (by decide +kernel) Tryd.ntmps59 rfl (by simp) ?_
 have hw1:=withinR x.den 1 1000000000
 have hw2:=withinR x.num (-1000000000) 1000000000
 by_cases h1:1≤x.den∧x.den≤1000000000
 ·rw [decide_eq_true h1] at hw1
  by_cases h2:-1000000000≤x.num∧x.num≤1000000000
  ·rw [decide_eq_true h2] at hw2
   have habs:=implAbsA x.num (by omega)
   have wn:IntKind.i64.wrap (-x.num) = -x.num:=w64 (by omega)
   have hg:=implGcdS x.num.natAbs x.den.toNat (by omega) (by omega)
   have ed:((x.den.toNat:Nat):Int)=x.den:=by omega
   rw [ed] at hg
   repeat' (first | refine sq ?_ | refine stp ?_ | refine blk_o (by decide) ?_ | (apply cb;(focus (simp (disch:=(first | omega | (simp;omega))) only [go_sem,w64,ratDV];try exact rfl));refine cok ?_) | (refine rgT ?_;intro K hK) | (refine dA ?_;intro K hK) | (with_reducible refine hK _ ?_;clear hK K) | (refine stq ?_;simp (disch:=(first | omega | (simp;omega))) only [go_sem,w64,ratDV]) | refine as1 ?_ | fail)
   (first | refine callA (hw1) ?_ | refine callD (hw1) ?_ | refine callE (hw1) ?_ | refine callF (hw1) ?_ ?_)
   repeat' (first | refine sq ?_ | refine stp ?_ | refine blk_o (by decide) ?_ | (apply cb;(focus (simp (disch:=(first | omega | (simp;omega))) only [go_sem,w64];try exact rfl));refine cok ?_) | (refine rgT ?_;intro K hK) | (refine dA ?_;intro K hK) | (with_reducible refine hK _ ?_;clear hK K) | (refine stq ?_;simp (disch:=(first | omega | (simp;omega))) only [go_sem,w64]) | refine as1 ?_ | fail)
   (first | refine callA (hw2) ?_ | refine callD (hw2) ?_ | refine callE (hw2) ?_ | refine callF (hw2) ?_ ?_)
   repeat' (first | refine sq ?_ | refine stp ?_ | refine blk_o (by decide) ?_ | (apply cb;(focus (simp (disch:=(first | omega | (simp;omega))) only [go_sem,w64,wn,max_abs];try exact rfl));refine cok ?_) | (refine rgT ?_;intro K hK) | (refine dA ?_;intro K hK) | (with_reducible refine hK _ ?_;clear hK K) | (refine stq ?_;simp (disch:=(first | omega | (simp;omega))) only [go_sem,w64,wn,max_abs]) | refine as1 ?_ | fail)
   (first | refine callA (habs) ?_ | refine callD (habs) ?_ | refine callE (habs) ?_ | refine callF (habs) ?_ ?_)
   repeat' (first | refine sq ?_ | refine stp ?_ | refine blk_o (by decide) ?_ | (apply cb;(focus (simp (disch:=(first | omega | (simp;omega))) only [go_sem,w64];try exact rfl));refine cok ?_) | (refine rgT ?_;intro K hK) | (refine dA ?_;intro K hK) | (with_reducible refine hK _ ?_;clear hK K) | (refine stq ?_;simp (disch:=(first | omega | (simp;omega))) only [go_sem,w64]) | refine as1 ?_ | fail)
   (first | refine callA (hg) ?_ | refine callD (hg) ?_ | refine callE (hg) ?_ | refine callF (hg) ?_ ?_)
   repeat' (first | refine sq ?_ | refine stp ?_ | refine blk_o (by decide) ?_ | (apply cb;(focus (simp (disch:=(first | omega | (simp;omega))) only [go_sem,w64];try exact rfl));refine cok ?_) | (refine rgT ?_;intro K hK) | (refine dA ?_;intro K hK) | (with_reducible refine hK _ ?_;clear hK K) | (refine stq ?_;simp (disch:=(first | omega | (simp;omega))) only [go_sem,w64]) | refine as1 ?_ | fail)
   (refine endA (r:=.d (.bool (decide (((Nat.gcd x.num.natAbs x.den.toNat:Nat):Int)=1)))) ?_)
   refine ⟨?_,rfl⟩
   unfold vR
   rw [ratOK_g h1 h2 rfl]
   congr 2
   simp only [eq_iff_iff,decide_eq_decide]
   omega
  ·rw [decide_eq_false h2] at hw2
   repeat' (first | refine sq ?_ | refine stp ?_ | refine blk_o (by decide) ?_ | (apply cb;(focus (simp (disch:=(first | omega | (simp;omega))) only [go_sem,w64,ratDV];try exact rfl));refine cok ?_) | (refine rgT ?_;intro K hK) | (refine dA ?_;intro K hK) | (with_reducible refine hK _ ?_;clear hK K) | (refine stq ?_;simp (disch:=(first | omega | (simp;omega))) only [go_sem,w64,ratDV]) | refine as1 ?_ | fail)
   (first | refine callA (hw1) ?_ | refine callD (hw1) ?_ | refine callE (hw1) ?_ | refine callF (hw1) ?_ ?_)
   repeat' (first | refine sq ?_ | refine stp ?_ | refine blk_o (by decide) ?_ | (apply cb;(focus (simp (disch:=(first | omega | (simp;omega))) only [go_sem,w64];try exact rfl));refine cok ?_) | (refine rgT ?_;intro K hK) | (refine dA ?_;intro K hK) | (with_reducible refine hK _ ?_;clear hK K) | (refine stq ?_;simp (disch:=(first | omega | (simp;omega))) only [go_sem,w64]) | refine as1 ?_ | fail)
   (first | refine callA (hw2) ?_ | refine callD (hw2) ?_ | refine callE (hw2) ?_ | refine callF (hw2) ?_ ?_)
   repeat' (first | refine sq ?_ | refine stp ?_ | refine blk_o (by decide) ?_ | (apply cb;(focus (simp (disch:=(first | omega | (simp;omega))) only [go_sem,w64];try exact rfl));refine cok ?_) | (refine rgT ?_;intro K hK) | (refine dA ?_;intro K hK) | (with_reducible refine hK _ ?_;clear hK K) | (refine stq ?_;simp (disch:=(first | omega | (simp;omega))) only [go_sem,w64]) | refine as1 ?_ | fail)
   (refine endA (r:=.d (.bool false)) ?_)
   exact ⟨by unfold vR;rw [ratOK_n h2],rfl⟩
 ·rw [decide_eq_false h1] at hw1
  repeat' (first | refine sq ?_ | refine stp ?_ | refine blk_o (by decide) ?_ | (apply cb;(focus (simp (disch:=(first | omega | (simp;omega))) only [go_sem,w64,ratDV];try exact rfl));refine cok ?_) | (refine rgT ?_;intro K hK) | (refine dA ?_;intro K hK) | (with_reducible refine hK _ ?_;clear hK K) | (refine stq ?_;simp (disch:=(first | omega | (simp;omega))) only [go_sem,w64,ratDV]) | refine as1 ?_ | fail)
  (first | refine callA (hw1) ?_ | refine callD (hw1) ?_ | refine callE (hw1) ?_ | refine callF (hw1) ?_ ?_)
  repeat' (first | refine sq ?_ | refine stp ?_ | refine blk_o (by decide) ?_ | (apply cb;(focus (simp (disch:=(first | omega | (simp;omega))) only [go_sem,w64];try exact rfl));refine cok ?_) | (refine rgT ?_;intro K hK) | (refine dA ?_;intro K hK) | (with_reducible refine hK _ ?_;clear hK K) | (refine stq ?_;simp (disch:=(first | omega | (simp;omega))) only [go_sem,w64]) | refine as1 ?_ | fail)
  (refine endA (r:=.d (.bool false)) ?_)
  exact ⟨by unfold vR;rw [ratOK_d h1],rfl⟩
theorem specValidRA (x:RatD):AFn 55 [.d (ratDV x)] [] (fun r os=>r=.d (.bool (vR x))∧os=[]):=by
 refine afn_of (rv:=[.tmp 2]) tyT_ok Tryd.func55 rfl (by decide +kernel) Tryd.ntmps55 rfl (by simp) ?_
 have hw1:=inR x.den 1 1000000000
 have hw2:=inR x.num (-1000000000) 1000000000
 by_cases h1:1≤x.den∧x.den≤1000000000
 ·rw [decide_eq_true h1] at hw1
  by_cases h2:-1000000000≤x.num∧x.num≤1000000000
  ·rw [decide_eq_true h2] at hw2
   have wn:IntKind.i64.wrap (0 - x.num)=0 - x.num:=w64 (by omega)
   have hmx:(if 0 - x.num > x.num then 0 - x.num else x.num)=(x.num.natAbs:Int):=by split <;> omega
   have hg:=specGcdS x.num.natAbs x.den.toNat (by omega) (by omega)
   have ed:((x.den.toNat:Nat):Int)=x.den:=by omega
   rw [ed] at hg
   repeat' (first | refine sq ?_ | refine stp ?_ | refine blk_o (by decide) ?_ | (apply cb;(focus (simp (disch:=(first | omega | (simp;omega))) only [go_sem,w64,ratDV];try exact rfl));refine cok ?_) | (refine rgT ?_;intro K hK) | (refine dA ?_;intro K hK) | (with_reducible refine hK _ ?_;clear hK K) | (refine stq ?_;simp (disch:=(first | omega | (simp;omega))) only [go_sem,w64,ratDV]) | refine as1 ?_ | fail)
   (first | refine callA (hw1) ?_ | refine callD (hw1) ?_ | refine callE (hw1) ?_ | refine callF (hw1) ?_ ?_)
   repeat' (first | refine sq ?_ | refine stp ?_ | refine blk_o (by decide) ?_ | (apply cb;(focus (simp (disch:=(first | omega | (simp;omega))) only [go_sem,w64];try exact rfl));refine cok ?_) | (refine rgT ?_;intro K hK) | (refine dA ?_;intro K hK) | (with_reducible refine hK _ ?_;clear hK K) | (refine stq ?_;simp (disch:=(first | omega | (simp;omega))) only [go_sem,w64]) | refine as1 ?_ | fail)
   (first | refine callA (hw2) ?_ | refine callD (hw2) ?_ | refine callE (hw2) ?_ | refine callF (hw2) ?_ ?_)
   repeat' (first | refine sq ?_ | refine stp ?_ | refine blk_o (by decide) ?_ | (apply cb;(focus (simp (disch:=(first | omega | (simp;omega))) only [go_sem,w64,wn,hmx];try exact rfl));refine cok ?_) | (refine rgT ?_;intro K hK) | (refine dA ?_;intro K hK) | (with_reducible refine hK _ ?_;clear hK K) | (refine stq ?_;simp (disch:=(first | omega | (simp;omega))) only [go_sem,w64,wn,hmx]) | refine as1 ?_ | fail)
   (first | refine callA (hg) ?_ | refine callD (hg) ?_ | refine callE (hg) ?_ | refine callF (hg) ?_ ?_)
   repeat' (first | refine sq ?_ | refine stp ?_ | refine blk_o (by decide) ?_ | (apply cb;(focus (simp (disch:=(first | omega | (simp;omega))) only [go_sem,w64];try exact rfl));refine cok ?_) | (refine rgT ?_;intro K hK) | (refine dA ?_;intro K hK) | (with_reducible refine hK _ ?_;clear hK K) | (refine stq ?_;simp (disch:=(first | omega | (simp;omega))) only [go_sem,w64]) | refine as1 ?_ | fail)
   (refine endA (r:=.d (.bool (decide (((Nat.gcd x.num.natAbs x.den.toNat:Nat):Int)=1)))) ?_)
   refine ⟨?_,rfl⟩
   unfold vR
   rw [ratOK_g h1 h2 rfl]
   congr 2
   simp only [eq_iff_iff,decide_eq_decide]
   omega
  ·rw [decide_eq_false h2] at hw2
   repeat' (first | refine sq ?_ | refine stp ?_ | refine blk_o (by decide) ?_ | (apply cb;(focus (simp (disch:=(first | omega | (simp;omega))) only [go_sem,w64,ratDV];try exact rfl));refine cok ?_) | (refine rgT ?_;intro K hK) | (refine dA ?_;intro K hK) | (with_reducible refine hK _ ?_;clear hK K) | (refine stq ?_;simp (disch:=(first | omega | (simp;omega))) only [go_sem,w64,ratDV]) | refine as1 ?_ | fail)
   (first | refine callA (hw1) ?_ | refine callD (hw1) ?_ | refine callE (hw1) ?_ | refine callF (hw1) ?_ ?_)
   repeat' (first | refine sq ?_ | refine stp ?_ | refine blk_o (by decide) ?_ | (apply cb;(focus (simp (disch:=(first | omega | (simp;omega))) only [go_sem,w64];try exact rfl));refine cok ?_) | (refine rgT ?_;intro K hK) | (refine dA ?_;intro K hK) | (with_reducible refine hK _ ?_;clear hK K) | (refine stq ?_;simp (disch:=(first | omega | (simp;omega))) only [go_sem,w64]) | refine as1 ?_ | fail)
   (first | refine callA (hw2) ?_ | refine callD (hw2) ?_ | refine callE (hw2) ?_ | refine callF (hw2) ?_ ?_)
   repeat' (first | refine sq ?_ | refine stp ?_ | refine blk_o (by decide) ?_ | (apply cb;(focus (simp (disch:=(first | omega | (simp;omega))) only [go_sem,w64];try exact rfl));refine cok ?_) | (refine rgT ?_;intro K hK) | (refine dA ?_;intro K hK) | (with_reducible refine hK _ ?_;clear hK K) | (refine stq ?_;simp (disch:=(first | omega | (simp;omega))) only [go_sem,w64]) | refine as1 ?_ | fail)
   (refine endA (r:=.d (.bool false)) ?_)
   exact ⟨by unfold vR;rw [ratOK_n h2],rfl⟩
 ·rw [decide_eq_false h1] at hw1
  repeat' (first | refine sq ?_ | refine stp ?_ | refine blk_o (by decide) ?_ | (apply cb;(focus (simp (disch:=(first | omega | (simp;omega))) only [go_sem,w64,ratDV];try exact rfl));refine cok ?_) | (refine rgT ?_;intro K hK) | (refine dA ?_;intro K hK) | (with_reducible refine hK _ ?_;clear hK K) | (refine stq ?_;simp (disch:=(first | omega | (simp;omega))) only [go_sem,w64,ratDV]) | refine as1 ?_ | fail)
  (first | refine callA (hw1) ?_ | refine callD (hw1) ?_ | refine callE (hw1) ?_ | refine callF (hw1) ?_ ?_)
  repeat' (first | refine sq ?_ | refine stp ?_ | refine blk_o (by decide) ?_ | (apply cb;(focus (simp (disch:=(first | omega | (simp;omega))) only [go_sem,w64];try exact rfl));refine cok ?_) | (refine rgT ?_;intro K hK) | (refine dA ?_;intro K hK) | (with_reducible refine hK _ ?_;clear hK K) | (refine stq ?_;simp (disch:=(first | omega | (simp;omega))) only [go_sem,w64]) | refine as1 ?_ | fail)
  (refine endA (r:=.d (.bool false)) ?_)
  exact ⟨by unfold vR;rw [ratOK_d h1],rfl⟩
theorem wM:IntKind.i64.wrap (0 - 4000000000000000000) = -4000000000000000000:=by rw [w64 (by omega)];omega
set_option maxHeartbeats 2000000 in
theorem implNewA (n d:Int):AFn 65 [.d (.int n),.d (.int d)] [] (fun r os=>r=tupQ (newRat n d)∧os=[]):=by
 refine afn_of (rv:=[.cell 4 33,.tmp 5]) tyT_ok Tryd.func65 rfl (by decide +kernel) Tryd.ntmps65 rfl (by simp) ?_
 by_cases hd0:d=0
 ·have z0:d=0↔True:=iff_of_true hd0 trivial
  repeat' (first | refine sq ?_ | refine stp ?_ | refine blk_o (by decide) ?_ | (apply cb;(focus (simp (disch:=(first | omega | (simp;omega))) only [go_sem,w64,z0];try exact rfl));refine cok ?_) | (refine rgT ?_;intro K hK) | (refine dA ?_;intro K hK) | (with_reducible refine hK _ ?_;clear hK K) | (refine stq ?_;simp (disch:=(first | omega | (simp;omega))) only [go_sem,w64,z0]) | refine as1 ?_ | fail)
  (refine endA (r:=.tup [.d (.agg [.int 0,.int 0]),.d (.bool false)]) ?_)
  exact ⟨by rw [newRat_no (by omega)];rfl,rfl⟩
 have z0:d=0↔False:=iff_of_false hd0 id
 have hw1:=withinR n (-4000000000000000000) 4000000000000000000
 have hw2:=withinR d (-4000000000000000000) 4000000000000000000
 by_cases hn1:-4000000000000000000≤n∧n≤4000000000000000000
 ·rw [decide_eq_true hn1] at hw1
  by_cases hd1:-4000000000000000000≤d∧d≤4000000000000000000
  ·rw [decide_eq_true hd1] at hw2
   have wneg1:IntKind.i64.wrap (0 - n) = -n:=by rw [w64 (by omega)];omega
   have wneg2:IntKind.i64.wrap (0 - d) = -d:=by rw [w64 (by omega)];omega
   repeat' (first | refine sq ?_ | refine stp ?_ | refine blk_o (by decide) ?_ | (apply cb;(focus (simp (disch:=(first | omega | (simp;omega))) only [go_sem,w64,z0,wM];try exact rfl));refine cok ?_) | (refine rgT ?_;intro K hK) | (refine dA ?_;intro K hK) | (with_reducible refine hK _ ?_;clear hK K) | (refine stq ?_;simp (disch:=(first | omega | (simp;omega))) only [go_sem,w64,z0,wM]) | refine as1 ?_ | fail)
   (first | refine callA (hw1) ?_ | refine callD (hw1) ?_ | refine callE (hw1) ?_ | refine callF (hw1) ?_ ?_)
   repeat' (first | refine sq ?_ | refine stp ?_ | refine blk_o (by decide) ?_ | (apply cb;(focus (simp (disch:=(first | omega | (simp;omega))) only [go_sem,w64,wM];try exact rfl));refine cok ?_) | (refine rgT ?_;intro K hK) | (refine dA ?_;intro K hK) | (with_reducible refine hK _ ?_;clear hK K) | (refine stq ?_;simp (disch:=(first | omega | (simp;omega))) only [go_sem,w64,wM]) | refine as1 ?_ | fail)
   (first | refine callA (hw2) ?_ | refine callD (hw2) ?_ | refine callE (hw2) ?_ | refine callF (hw2) ?_ ?_)
   by_cases hneg:d<0
   ·have zl:decide (d<0)=true:=decide_eq_true hneg
    have hn2:=hn1
    obtain ⟨g,hg⟩:∃ g,Nat.gcd (-n).natAbs (-d).toNat=g:=⟨_,rfl⟩
    have hg0:0<g:=by rw [← hg];exact Nat.gcd_pos_of_pos_right _ (by omega)
    have hgc:=implGcdS (-n).natAbs (-d).toNat (by omega) (by omega)
    rw [hg,show (((-d).toNat:Nat):Int) = -d by omega] at hgc
    have habs:=implAbsA (-n) (by omega)
    have hgn:((g:Nat):Int) ≠ 0:=by omega
    obtain ⟨a,ea⟩:∃ a,(-n).tdiv g=a:=⟨_,rfl⟩
    have q1:IntKind.i64.wrap ((-n).tdiv g)=a:=by rw [← ea];exact w64 (by have:=tdiv_i64 (g:=g) (n:=-n) (by omega);omega)
    obtain ⟨b,eb⟩:∃ b,(-d).tdiv g=b:=⟨_,rfl⟩
    have q2:IntKind.i64.wrap ((-d).tdiv g)=b:=by rw [← eb];exact w64 (by have:=tdiv_i64 (g:=g) (n:=-d) (by omega);omega)
    have hva:=implValidRA ⟨(-n).tdiv g,(-d).tdiv g⟩
    have hlaw:=newRat_neg (g:=g) hneg (by omega) hn1 hg
    have hrr:vR ⟨(-n).tdiv g,(-d).tdiv g⟩=ratOK ((-n).tdiv g) ((-d).tdiv g):=rfl
    rw [hrr] at hva
    rw [ea,eb] at hva hlaw
    repeat' (first | refine sq ?_ | refine stp ?_ | refine blk_o (by decide) ?_ | (apply cb;(focus (simp (disch:=(first | omega | (simp;omega))) only [go_sem,w64,zl,wneg1,wneg2];try exact rfl));refine cok ?_) | (refine rgT ?_;intro K hK) | (refine dA ?_;intro K hK) | (with_reducible refine hK _ ?_;clear hK K) | (refine stq ?_;simp (disch:=(first | omega | (simp;omega))) only [go_sem,w64,zl,wneg1,wneg2]) | refine as1 ?_ | fail)
    (first | refine callA (habs) ?_ | refine callD (habs) ?_ | refine callE (habs) ?_ | refine callF (habs) ?_ ?_)
    repeat' (first | refine sq ?_ | refine stp ?_ | refine blk_o (by decide) ?_ | (apply cb;(focus (simp (disch:=(first | omega | (simp;omega))) only [go_sem,w64];try exact rfl));refine cok ?_) | (refine rgT ?_;intro K hK) | (refine dA ?_;intro K hK) | (with_reducible refine hK _ ?_;clear hK K) | (refine stq ?_;simp (disch:=(first | omega | (simp;omega))) only [go_sem,w64]) | refine as1 ?_ | fail)
    (first | refine callA (hgc) ?_ | refine callD (hgc) ?_ | refine callE (hgc) ?_ | refine callF (hgc) ?_ ?_)
    repeat' (first | refine sq ?_ | refine stp ?_ | refine blk_o (by decide) ?_ | (apply cb;(focus (simp (disch:=(first | omega | (simp;omega))) only [go_sem,w64,q1,q2];try exact rfl));refine cok ?_) | (refine rgT ?_;intro K hK) | (refine dA ?_;intro K hK) | (with_reducible refine hK _ ?_;clear hK K) | (refine stq ?_;simp (disch:=(first | omega | (simp;omega))) only [go_sem,w64,q1,q2]) | refine as1 ?_ | fail)
    (first | refine callA (hva) ?_ | refine callD (hva) ?_ | refine callE (hva) ?_ | refine callF (hva) ?_ ?_)
    cases hok:ratOK a b with
    | false =>
     rw [hok,if_neg (by decide)] at hlaw
     repeat' (first | refine sq ?_ | refine stp ?_ | refine blk_o (by decide) ?_ | (apply cb;(focus (simp (disch:=(first | omega | (simp;omega))) only [go_sem,w64,q1,q2];try exact rfl));refine cok ?_) | (refine rgT ?_;intro K hK) | (refine dA ?_;intro K hK) | (with_reducible refine hK _ ?_;clear hK K) | (refine stq ?_;simp (disch:=(first | omega | (simp;omega))) only [go_sem,w64,q1,q2]) | refine as1 ?_ | fail)
     (refine endA (r:=.tup [.d (.agg [.int 0,.int 0]),.d (.bool false)]) ?_)
     exact ⟨by rw [hlaw];rfl,rfl⟩
    | true =>
     rw [hok,if_pos rfl] at hlaw
     repeat' (first | refine sq ?_ | refine stp ?_ | refine blk_o (by decide) ?_ | (apply cb;(focus (simp (disch:=(first | omega | (simp;omega))) only [go_sem,w64,q1,q2];try exact rfl));refine cok ?_) | (refine rgT ?_;intro K hK) | (refine dA ?_;intro K hK) | (with_reducible refine hK _ ?_;clear hK K) | (refine stq ?_;simp (disch:=(first | omega | (simp;omega))) only [go_sem,w64,q1,q2]) | refine as1 ?_ | fail)
     (refine endA (r:=.tup [.d (.agg [.int a,.int b]),.d (.bool true)]) ?_)
     exact ⟨by rw [hlaw];rfl,rfl⟩
   ·have zl:decide (d<0)=false:=decide_eq_false hneg
    obtain ⟨g,hg⟩:∃ g,Nat.gcd (n).natAbs (d).toNat=g:=⟨_,rfl⟩
    have hg0:0<g:=by rw [← hg];exact Nat.gcd_pos_of_pos_right _ (by omega)
    have hgc:=implGcdS (n).natAbs (d).toNat (by omega) (by omega)
    rw [hg,show (((d).toNat:Nat):Int)=d by omega] at hgc
    have habs:=implAbsA (n) (by omega)
    have hgn:((g:Nat):Int) ≠ 0:=by omega
    obtain ⟨a,ea⟩:∃ a,(n).tdiv g=a:=⟨_,rfl⟩
    have q1:IntKind.i64.wrap ((n).tdiv g)=a:=by rw [← ea];exact w64 (by have:=tdiv_i64 (g:=g) (n:=n) (by omega);omega)
    obtain ⟨b,eb⟩:∃ b,(d).tdiv g=b:=⟨_,rfl⟩
    have q2:IntKind.i64.wrap ((d).tdiv g)=b:=by rw [← eb];exact w64 (by have:=tdiv_i64 (g:=g) (n:=d) (by omega);omega)
    have hva:=implValidRA ⟨(n).tdiv g,(d).tdiv g⟩
    have hlaw:=newRat_pos (g:=g) (by omega) (by omega) hn1 hg
    have hrr:vR ⟨(n).tdiv g,(d).tdiv g⟩=ratOK ((n).tdiv g) ((d).tdiv g):=rfl
    rw [hrr] at hva
    rw [ea,eb] at hva hlaw
    repeat' (first | refine sq ?_ | refine stp ?_ | refine blk_o (by decide) ?_ | (apply cb;(focus (simp (disch:=(first | omega | (simp;omega))) only [go_sem,w64,zl,wneg1,wneg2];try exact rfl));refine cok ?_) | (refine rgT ?_;intro K hK) | (refine dA ?_;intro K hK) | (with_reducible refine hK _ ?_;clear hK K) | (refine stq ?_;simp (disch:=(first | omega | (simp;omega))) only [go_sem,w64,zl,wneg1,wneg2]) | refine as1 ?_ | fail)
    (first | refine callA (habs) ?_ | refine callD (habs) ?_ | refine callE (habs) ?_ | refine callF (habs) ?_ ?_)
    repeat' (first | refine sq ?_ | refine stp ?_ | refine blk_o (by decide) ?_ | (apply cb;(focus (simp (disch:=(first | omega | (simp;omega))) only [go_sem,w64];try exact rfl));refine cok ?_) | (refine rgT ?_;intro K hK) | (refine dA ?_;intro K hK) | (with_reducible refine hK _ ?_;clear hK K) | (refine stq ?_;simp (disch:=(first | omega | (simp;omega))) only [go_sem,w64]) | refine as1 ?_ | fail)
    (first | refine callA (hgc) ?_ | refine callD (hgc) ?_ | refine callE (hgc) ?_ | refine callF (hgc) ?_ ?_)
    repeat' (first | refine sq ?_ | refine stp ?_ | refine blk_o (by decide) ?_ | (apply cb;(focus (simp (disch:=(first | omega | (simp;omega))) only [go_sem,w64,q1,q2];try exact rfl));refine cok ?_) | (refine rgT ?_;intro K hK) | (refine dA ?_;intro K hK) | (with_reducible refine hK _ ?_;clear hK K) | (refine stq ?_;simp (disch:=(first | omega | (simp;omega))) only [go_sem,w64,q1,q2]) | refine as1 ?_ | fail)
    (first | refine callA (hva) ?_ | refine callD (hva) ?_ | refine callE (hva) ?_ | refine callF (hva) ?_ ?_)
    cases hok:ratOK a b with
    | false =>
     rw [hok,if_neg (by decide)] at hlaw
     repeat' (first | refine sq ?_ | refine stp ?_ | refine blk_o (by decide) ?_ | (apply cb;(focus (simp (disch:=(first | omega | (simp;omega))) only [go_sem,w64,q1,q2];try exact rfl));refine cok ?_) | (refine rgT ?_;intro K hK) | (refine dA ?_;intro K hK) | (with_reducible refine hK _ ?_;clear hK K) | (refine stq ?_;simp (disch:=(first | omega | (simp;omega))) only [go_sem,w64,q1,q2]) | refine as1 ?_ | fail)
     (refine endA (r:=.tup [.d (.agg [.int 0,.int 0]),.d (.bool false)]) ?_)
     exact ⟨by rw [hlaw];rfl,rfl⟩
    | true =>
     rw [hok,if_pos rfl] at hlaw
     repeat' (first | refine sq ?_ | refine stp ?_ | refine blk_o (by decide) ?_ | (apply cb;(focus (simp (disch:=(first | omega | (simp;omega))) only [go_sem,w64,q1,q2];try exact rfl));refine cok ?_) | (refine rgT ?_;intro K hK) | (refine dA ?_;intro K hK) | (with_reducible refine hK _ ?_;clear hK K) | (refine stq ?_;simp (disch:=(first | omega | (simp;omega))) only [go_sem,w64,q1,q2]) | refine as1 ?_ | fail)
     (refine endA (r:=.tup [.d (.agg [.int a,.int b]),.d (.bool true)]) ?_)
     exact ⟨by rw [hlaw];rfl,rfl⟩
  ·rw [decide_eq_false hd1] at hw2
   repeat' (first | refine sq ?_ | refine stp ?_ | refine blk_o (by decide) ?_ | (apply cb;(focus (simp (disch:=(first | omega | (simp;omega))) only [go_sem,w64,z0,wM];try exact rfl));refine cok ?_) | (refine rgT ?_;intro K hK) | (refine dA ?_;intro K hK) | (with_reducible refine hK _ ?_;clear hK K) | (refine stq ?_;simp (disch:=(first | omega | (simp;omega))) only [go_sem,w64,z0,wM]) | refine as1 ?_ | fail)
   (first | refine callA (hw1) ?_ | refine callD (hw1) ?_ | refine callE (hw1) ?_ | refine callF (hw1) ?_ ?_)
   repeat' (first | refine sq ?_ | refine stp ?_ | refine blk_o (by decide) ?_ | (apply cb;(focus (simp (disch:=(first | omega | (simp;omega))) only [go_sem,w64,wM];try exact rfl));refine cok ?_) | (refine rgT ?_;intro K hK) | (refine dA ?_;intro K hK) | (with_reducible refine hK _ ?_;clear hK K) | (refine stq ?_;simp (disch:=(first | omega | (simp;omega))) only [go_sem,w64,wM]) | refine as1 ?_ | fail)
   (first | refine callA (hw2) ?_ | refine callD (hw2) ?_ | refine callE (hw2) ?_ | refine callF (hw2) ?_ ?_)
   repeat' (first | refine sq ?_ | refine stp ?_ | refine blk_o (by decide) ?_ | (apply cb;(focus (simp (disch:=(first | omega | (simp;omega))) only [go_sem,w64];try exact rfl));refine cok ?_) | (refine rgT ?_;intro K hK) | (refine dA ?_;intro K hK) | (with_reducible refine hK _ ?_;clear hK K) | (refine stq ?_;simp (disch:=(first | omega | (simp;omega))) only [go_sem,w64]) | refine as1 ?_ | fail)
   (refine endA (r:=.tup [.d (.agg [.int 0,.int 0]),.d (.bool false)]) ?_)
   exact ⟨by rw [newRat_no (by omega)];rfl,rfl⟩
 ·rw [decide_eq_false hn1] at hw1
  repeat' (first | refine sq ?_ | refine stp ?_ | refine blk_o (by decide) ?_ | (apply cb;(focus (simp (disch:=(first | omega | (simp;omega))) only [go_sem,w64,z0,wM];try exact rfl));refine cok ?_) | (refine rgT ?_;intro K hK) | (refine dA ?_;intro K hK) | (with_reducible refine hK _ ?_;clear hK K) | (refine stq ?_;simp (disch:=(first | omega | (simp;omega))) only [go_sem,w64,z0,wM]) | refine as1 ?_ | fail)
  (first | refine callA (hw1) ?_ | refine callD (hw1) ?_ | refine callE (hw1) ?_ | refine callF (hw1) ?_ ?_)
  repeat' (first | refine sq ?_ | refine stp ?_ | refine blk_o (by decide) ?_ | (apply cb;(focus (simp (disch:=(first | omega | (simp;omega))) only [go_sem,w64];try exact rfl));refine cok ?_) | (refine rgT ?_;intro K hK) | (refine dA ?_;intro K hK) | (with_reducible refine hK _ ?_;clear hK K) | (refine stq ?_;simp (disch:=(first | omega | (simp;omega))) only [go_sem,w64]) | refine as1 ?_ | fail)
  (refine endA (r:=.tup [.d (.agg [.int 0,.int 0]),.d (.bool false)]) ?_)
  exact ⟨by rw [newRat_no (by omega)];rfl,rfl⟩
set_option maxHeartbeats 2000000 in
theorem specNewA (n d:Int):AFn 52 [.d (.int n),.d (.int d)] [] (fun r os=>r=tupQ (newRat n d)∧os=[]):=by
 refine afn_of (rv:=[.cell 4 33,.tmp 5]) tyT_ok Tryd.func52 rfl (by decide +kernel) Tryd.ntmps52 rfl (by simp) ?_
 by_cases hd0:d=0
 ·have z0:d=0↔True:=iff_of_true hd0 trivial
  repeat' (first | refine sq ?_ | refine stp ?_ | refine blk_o (by decide) ?_ | (apply cb;(focus (simp (disch:=(first | omega | (simp;omega))) only [go_sem,w64,z0];try exact rfl));refine cok ?_) | (refine rgT ?_;intro K hK) | (refine dA ?_;intro K hK) | (with_reducible refine hK _ ?_;clear hK K) | (refine stq ?_;simp (disch:=(first | omega | (simp;omega))) only [go_sem,w64,z0]) | refine as1 ?_ | fail)
  (refine endA (r:=.tup [.d (.agg [.int 0,.int 0]),.d (.bool false)]) ?_)
  exact ⟨by rw [newRat_no (by omega)];rfl,rfl⟩
 have z0:d=0↔False:=iff_of_false hd0 id
 have hw1:=inR n (-4000000000000000000) 4000000000000000000
 have hw2:=inR d (-4000000000000000000) 4000000000000000000
 by_cases hn1:-4000000000000000000≤n∧n≤4000000000000000000
 ·rw [decide_eq_true hn1] at hw1
  by_cases hd1:-4000000000000000000≤d∧d≤4000000000000000000
  ·rw [decide_eq_true hd1] at hw2
   have wneg1:IntKind.i64.wrap (0 - n) = -n:=by rw [w64 (by omega)];omega
   have wneg2:IntKind.i64.wrap (0 - d) = -d:=by rw [w64 (by omega)];omega
   repeat' (first | refine sq ?_ | refine stp ?_ | refine blk_o (by decide) ?_ | (apply cb;(focus (simp (disch:=(first | omega | (simp;omega))) only [go_sem,w64,z0,wM];try exact rfl));refine cok ?_) | (refine rgT ?_;intro K hK) | (refine dA ?_;intro K hK) | (with_reducible refine hK _ ?_;clear hK K) | (refine stq ?_;simp (disch:=(first | omega | (simp;omega))) only [go_sem,w64,z0,wM]) | refine as1 ?_ | fail)
   (first | refine callA (hw1) ?_ | refine callD (hw1) ?_ | refine callE (hw1) ?_ | refine callF (hw1) ?_ ?_)
   repeat' (first | refine sq ?_ | refine stp ?_ | refine blk_o (by decide) ?_ | (apply cb;(focus (simp (disch:=(first | omega | (simp;omega))) only [go_sem,w64,wM];try exact rfl));refine cok ?_) | (refine rgT ?_;intro K hK) | (refine dA ?_;intro K hK) | (with_reducible refine hK _ ?_;clear hK K) | (refine stq ?_;simp (disch:=(first | omega | (simp;omega))) only [go_sem,w64,wM]) | refine as1 ?_ | fail)
   (first | refine callA (hw2) ?_ | refine callD (hw2) ?_ | refine callE (hw2) ?_ | refine callF (hw2) ?_ ?_)
   by_cases hneg:d<0
   ·have zl:decide (d<0)=true:=decide_eq_true hneg
    have hn2:=hn1
    obtain ⟨g,hg⟩:∃ g,Nat.gcd (-n).natAbs (-d).toNat=g:=⟨_,rfl⟩
    have hg0:0<g:=by rw [← hg];exact Nat.gcd_pos_of_pos_right _ (by omega)
    have hgc:=specGcdS (-n).natAbs (-d).toNat (by omega) (by omega)
    rw [hg,show (((-d).toNat:Nat):Int) = -d by omega] at hgc
    have wm:IntKind.i64.wrap (0 - (-n))=0 - (-n):=w64 (by omega)
    have hmx:(if 0 - (-n) > -n then 0 - (-n) else -n)=(((-n).natAbs:Nat):Int):=by split <;> omega
    have hgn:((g:Nat):Int) ≠ 0:=by omega
    obtain ⟨a,ea⟩:∃ a,(-n).tdiv g=a:=⟨_,rfl⟩
    have q1:IntKind.i64.wrap ((-n).tdiv g)=a:=by rw [← ea];exact w64 (by have:=tdiv_i64 (g:=g) (n:=-n) (by omega);omega)
    obtain ⟨b,eb⟩:∃ b,(-d).tdiv g=b:=⟨_,rfl⟩
    have q2:IntKind.i64.wrap ((-d).tdiv g)=b:=by rw [← eb];exact w64 (by have:=tdiv_i64 (g:=g) (n:=-d) (by omega);omega)
    have hva:=specValidRA ⟨(-n).tdiv g,(-d).tdiv g⟩
    have hlaw:=newRat_neg (g:=g) hneg (by omega) hn1 hg
    have hrr:vR ⟨(-n).tdiv g,(-d).tdiv g⟩=ratOK ((-n).tdiv g) ((-d).tdiv g):=rfl
    rw [hrr] at hva
    rw [ea,eb] at hva hlaw
    repeat' (first | refine sq ?_ | refine stp ?_ | refine blk_o (by decide) ?_ | (apply cb;(focus (simp (disch:=(first | omega | (simp;omega))) only [go_sem,w64,zl,wneg1,wneg2,wm,hmx];try exact rfl));refine cok ?_) | (refine rgT ?_;intro K hK) | (refine dA ?_;intro K hK) | (with_reducible refine hK _ ?_;clear hK K) | (refine stq ?_;simp (disch:=(first | omega | (simp;omega))) only [go_sem,w64,zl,wneg1,wneg2,wm,hmx]) | refine as1 ?_ | fail)
    (first | refine callA (hgc) ?_ | refine callD (hgc) ?_ | refine callE (hgc) ?_ | refine callF (hgc) ?_ ?_)
    repeat' (first | refine sq ?_ | refine stp ?_ | refine blk_o (by decide) ?_ | (apply cb;(focus (simp (disch:=(first | omega | (simp;omega))) only [go_sem,w64,q1,q2];try exact rfl));refine cok ?_) | (refine rgT ?_;intro K hK) | (refine dA ?_;intro K hK) | (with_reducible refine hK _ ?_;clear hK K) | (refine stq ?_;simp (disch:=(first | omega | (simp;omega))) only [go_sem,w64,q1,q2]) | refine as1 ?_ | fail)
    (first | refine callA (hva) ?_ | refine callD (hva) ?_ | refine callE (hva) ?_ | refine callF (hva) ?_ ?_)
    cases hok:ratOK a b with
    | false =>
     rw [hok,if_neg (by decide)] at hlaw
     repeat' (first | refine sq ?_ | refine stp ?_ | refine blk_o (by decide) ?_ | (apply cb;(focus (simp (disch:=(first | omega | (simp;omega))) only [go_sem,w64,q1,q2];try exact rfl));refine cok ?_) | (refine rgT ?_;intro K hK) | (refine dA ?_;intro K hK) | (with_reducible refine hK _ ?_;clear hK K) | (refine stq ?_;simp (disch:=(first | omega | (simp;omega))) only [go_sem,w64,q1,q2]) | refine as1 ?_ | fail)
     (refine endA (r:=.tup [.d (.agg [.int 0,.int 0]),.d (.bool false)]) ?_)
     exact ⟨by rw [hlaw];rfl,rfl⟩
    | true =>
     rw [hok,if_pos rfl] at hlaw
     repeat' (first | refine sq ?_ | refine stp ?_ | refine blk_o (by decide) ?_ | (apply cb;(focus (simp (disch:=(first | omega | (simp;omega))) only [go_sem,w64,q1,q2];try exact rfl));refine cok ?_) | (refine rgT ?_;intro K hK) | (refine dA ?_;intro K hK) | (with_reducible refine hK _ ?_;clear hK K) | (refine stq ?_;simp (disch:=(first | omega | (simp;omega))) only [go_sem,w64,q1,q2]) | refine as1 ?_ | fail)
     (refine endA (r:=.tup [.d (.agg [.int a,.int b]),.d (.bool true)]) ?_)
     exact ⟨by rw [hlaw];rfl,rfl⟩
   ·have zl:decide (d<0)=false:=decide_eq_false hneg
    obtain ⟨g,hg⟩:∃ g,Nat.gcd (n).natAbs (d).toNat=g:=⟨_,rfl⟩
    have hg0:0<g:=by rw [← hg];exact Nat.gcd_pos_of_pos_right _ (by omega)
    have hgc:=specGcdS (n).natAbs (d).toNat (by omega) (by omega)
    rw [hg,show (((d).toNat:Nat):Int)=d by omega] at hgc
    have wm:IntKind.i64.wrap (0 - (n))=0 - (n):=w64 (by omega)
    have hmx:(if -n > n then -n else n)=(((n).natAbs:Nat):Int):=by split <;> omega
    have hgn:((g:Nat):Int) ≠ 0:=by omega
    obtain ⟨a,ea⟩:∃ a,(n).tdiv g=a:=⟨_,rfl⟩
    have q1:IntKind.i64.wrap ((n).tdiv g)=a:=by rw [← ea];exact w64 (by have:=tdiv_i64 (g:=g) (n:=n) (by omega);omega)
    obtain ⟨b,eb⟩:∃ b,(d).tdiv g=b:=⟨_,rfl⟩
    have q2:IntKind.i64.wrap ((d).tdiv g)=b:=by rw [← eb];exact w64 (by have:=tdiv_i64 (g:=g) (n:=d) (by omega);omega)
    have hva:=specValidRA ⟨(n).tdiv g,(d).tdiv g⟩
    have hlaw:=newRat_pos (g:=g) (by omega) (by omega) hn1 hg
    have hrr:vR ⟨(n).tdiv g,(d).tdiv g⟩=ratOK ((n).tdiv g) ((d).tdiv g):=rfl
    rw [hrr] at hva
    rw [ea,eb] at hva hlaw
    repeat' (first | refine sq ?_ | refine stp ?_ | refine blk_o (by decide) ?_ | (apply cb;(focus (simp (disch:=(first | omega | (simp;omega))) only [go_sem,w64,zl,wneg1,wneg2,wm,hmx];try exact rfl));refine cok ?_) | (refine rgT ?_;intro K hK) | (refine dA ?_;intro K hK) | (with_reducible refine hK _ ?_;clear hK K) | (refine stq ?_;simp (disch:=(first | omega | (simp;omega))) only [go_sem,w64,zl,wneg1,wneg2,wm,hmx]) | refine as1 ?_ | fail)
    (first | refine callA (hgc) ?_ | refine callD (hgc) ?_ | refine callE (hgc) ?_ | refine callF (hgc) ?_ ?_)
    repeat' (first | refine sq ?_ | refine stp ?_ | refine blk_o (by decide) ?_ | (apply cb;(focus (simp (disch:=(first | omega | (simp;omega))) only [go_sem,w64,q1,q2];try exact rfl));refine cok ?_) | (refine rgT ?_;intro K hK) | (refine dA ?_;intro K hK) | (with_reducible refine hK _ ?_;clear hK K) | (refine stq ?_;simp (disch:=(first | omega | (simp;omega))) only [go_sem,w64,q1,q2]) | refine as1 ?_ | fail)
    (first | refine callA (hva) ?_ | refine callD (hva) ?_ | refine callE (hva) ?_ | refine callF (hva) ?_ ?_)
    cases hok:ratOK a b with
    | false =>
     rw [hok,if_neg (by decide)] at hlaw
     repeat' (first | refine sq ?_ | refine stp ?_ | refine blk_o (by decide) ?_ | (apply cb;(focus (simp (disch:=(first | omega | (simp;omega))) only [go_sem,w64,q1,q2];try exact rfl));refine cok ?_) | (refine rgT ?_;intro K hK) | (refine dA ?_;intro K hK) | (with_reducible refine hK _ ?_;clear hK K) | (refine stq ?_;simp (disch:=(first | omega | (simp;omega))) only [go_sem,w64,q1,q2]) | refine as1 ?_ | fail)
     (refine endA (r:=.tup [.d (.agg [.int 0,.int 0]),.d (.bool false)]) ?_)
     exact ⟨by rw [hlaw];rfl,rfl⟩
    | true =>
     rw [hok,if_pos rfl] at hlaw
     repeat' (first | refine sq ?_ | refine stp ?_ | refine blk_o (by decide) ?_ | (apply cb;(focus (simp (disch:=(first | omega | (simp;omega))) only [go_sem,w64,q1,q2];try exact rfl));refine cok ?_) | (refine rgT ?_;intro K hK) | (refine dA ?_;intro K hK) | (with_reducible refine hK _ ?_;clear hK K) | (refine stq ?_;simp (disch:=(first | omega | (simp;omega))) only [go_sem,w64,q1,q2]) | refine as1 ?_ | fail)
     (refine endA (r:=.tup [.d (.agg [.int a,.int b]),.d (.bool true)]) ?_)
     exact ⟨by rw [hlaw];rfl,rfl⟩
  ·rw [decide_eq_false hd1] at hw2
   repeat' (first | refine sq ?_ | refine stp ?_ | refine blk_o (by decide) ?_ | (apply cb;(focus (simp (disch:=(first | omega | (simp;omega))) only [go_sem,w64,z0,wM];try exact rfl));refine cok ?_) | (refine rgT ?_;intro K hK) | (refine dA ?_;intro K hK) | (with_reducible refine hK _ ?_;clear hK K) | (refine stq ?_;simp (disch:=(first | omega | (simp;omega))) only [go_sem,w64,z0,wM]) | refine as1 ?_ | fail)
   (first | refine callA (hw1) ?_ | refine callD (hw1) ?_ | refine callE (hw1) ?_ | refine callF (hw1) ?_ ?_)
   repeat' (first | refine sq ?_ | refine stp ?_ | refine blk_o (by decide) ?_ | (apply cb;(focus (simp (disch:=(first | omega | (simp;omega))) only [go_sem,w64,wM];try exact rfl));refine cok ?_) | (refine rgT ?_;intro K hK) | (refine dA ?_;intro K hK) | (with_reducible refine hK _ ?_;clear hK K) | (refine stq ?_;simp (disch:=(first | omega | (simp;omega))) only [go_sem,w64,wM]) | refine as1 ?_ | fail)
   (first | refine callA (hw2) ?_ | refine callD (hw2) ?_ | refine callE (hw2) ?_ | refine callF (hw2) ?_ ?_)
   repeat' (first | refine sq ?_ | refine stp ?_ | refine blk_o (by decide) ?_ | (apply cb;(focus (simp (disch:=(first | omega | (simp;omega))) only [go_sem,w64];try exact rfl));refine cok ?_) | (refine rgT ?_;intro K hK) | (refine dA ?_;intro K hK) | (with_reducible refine hK _ ?_;clear hK K) | (refine stq ?_;simp (disch:=(first | omega | (simp;omega))) only [go_sem,w64]) | refine as1 ?_ | fail)
   (refine endA (r:=.tup [.d (.agg [.int 0,.int 0]),.d (.bool false)]) ?_)
   exact ⟨by rw [newRat_no (by omega)];rfl,rfl⟩
 ·rw [decide_eq_false hn1] at hw1
  repeat' (first | refine sq ?_ | refine stp ?_ | refine blk_o (by decide) ?_ | (apply cb;(focus (simp (disch:=(first | omega | (simp;omega))) only [go_sem,w64,z0,wM];try exact rfl));refine cok ?_) | (refine rgT ?_;intro K hK) | (refine dA ?_;intro K hK) | (with_reducible refine hK _ ?_;clear hK K) | (refine stq ?_;simp (disch:=(first | omega | (simp;omega))) only [go_sem,w64,z0,wM]) | refine as1 ?_ | fail)
  (first | refine callA (hw1) ?_ | refine callD (hw1) ?_ | refine callE (hw1) ?_ | refine callF (hw1) ?_ ?_)
  repeat' (first | refine sq ?_ | refine stp ?_ | refine blk_o (by decide) ?_ | (apply cb;(focus (simp (disch:=(first | omega | (simp;omega))) only [go_sem,w64];try exact rfl));refine cok ?_) | (refine rgT ?_;intro K hK) | (refine dA ?_;intro K hK) | (with_reducible refine hK _ ?_;clear hK K) | (refine stq ?_;simp (disch:=(first | omega | (simp;omega))) only [go_sem,w64]) | refine as1 ?_ | fail)
  (refine endA (r:=.tup [.d (.agg [.int 0,.int 0]),.d (.bool false)]) ?_)
  exact ⟨by rw [newRat_no (by omega)];rfl,rfl⟩
section
variable (x y:RatD)
theorem implBothA:AFn 38 [.d (ratDV x),.d (ratDV y)] [] (fun r os=>r=.d (.bool (vR x && vR y))∧os=[]):=by
 refine afn_of (rv:=[.tmp 4]) tyT_ok Tryd.func38 rfl (by decide +kernel) Tryd.ntmps38 rfl (by simp) ?_
 repeat' (first | refine sq ?_ | refine stp ?_ | refine blk_o (by decide) ?_ | (apply cb;(focus (simp (disch:=(first | omega | (simp;omega))) only [go_sem,w64,ratDV];try exact rfl));refine cok ?_) | (refine rgT ?_;intro K hK) | (refine dA ?_;intro K hK) | (with_reducible refine hK _ ?_;clear hK K) | (refine stq ?_;simp (disch:=(first | omega | (simp;omega))) only [go_sem,w64,ratDV]) | refine as1 ?_ | fail)
 (first | refine callA (implValidRA x) ?_ | refine callD (implValidRA x) ?_ | refine callE (implValidRA x) ?_ | refine callF (implValidRA x) ?_ ?_)
 cases hx:vR x with
 | false =>
  repeat' (first | refine sq ?_ | refine stp ?_ | refine blk_o (by decide) ?_ | (apply cb;(focus (simp (disch:=(first | omega | (simp;omega))) only [go_sem,w64,ratDV];try exact rfl));refine cok ?_) | (refine rgT ?_;intro K hK) | (refine dA ?_;intro K hK) | (with_reducible refine hK _ ?_;clear hK K) | (refine stq ?_;simp (disch:=(first | omega | (simp;omega))) only [go_sem,w64,ratDV]) | refine as1 ?_ | fail)
  (refine endA (r:=.d (.bool false)) ?_)
  exact ⟨by rw [hx];rfl,rfl⟩
 | true =>
  repeat' (first | refine sq ?_ | refine stp ?_ | refine blk_o (by decide) ?_ | (apply cb;(focus (simp (disch:=(first | omega | (simp;omega))) only [go_sem,w64,ratDV];try exact rfl));refine cok ?_) | (refine rgT ?_;intro K hK) | (refine dA ?_;intro K hK) | (with_reducible refine hK _ ?_;clear hK K) | (refine stq ?_;simp (disch:=(first | omega | (simp;omega))) only [go_sem,w64,ratDV]) | refine as1 ?_ | fail)
  (first | refine callA (implValidRA y) ?_ | refine callD (implValidRA y) ?_ | refine callE (implValidRA y) ?_ | refine callF (implValidRA y) ?_ ?_)
  repeat' (first | refine sq ?_ | refine stp ?_ | refine blk_o (by decide) ?_ | (apply cb;(focus (simp (disch:=(first | omega | (simp;omega))) only [go_sem,w64,ratDV];try exact rfl));refine cok ?_) | (refine rgT ?_;intro K hK) | (refine dA ?_;intro K hK) | (with_reducible refine hK _ ?_;clear hK K) | (refine stq ?_;simp (disch:=(first | omega | (simp;omega))) only [go_sem,w64,ratDV]) | refine as1 ?_ | fail)
  (refine endA (r:=.d (.bool (vR y))) ?_)
  exact ⟨by rw [hx];rfl,rfl⟩
theorem implAddA:AFn 37 [.d (ratDV x),.d (ratDV y)] [] (fun r os=>r=tupQ (addQ x y)∧os=[]):=by
 have hT:addQ x y=if (vR x && vR y)=true then newRat (x.num*y.den+y.num*x.den) (x.den*y.den) else (0,0,false):=rfl
 refine afn_of (rv:=[.cell 4 33,.tmp 5]) tyT_ok Tryd.func37 rfl (by decide +kernel) Tryd.ntmps37 rfl (by simp) ?_
 repeat' (first | refine sq ?_ | refine stp ?_ | refine blk_o (by decide) ?_ | (apply cb;(focus (simp (disch:=(first | omega | (simp;omega))) only [go_sem,w64,ratDV];try exact rfl));refine cok ?_) | (refine rgT ?_;intro K hK) | (refine dA ?_;intro K hK) | (with_reducible refine hK _ ?_;clear hK K) | (refine stq ?_;simp (disch:=(first | omega | (simp;omega))) only [go_sem,w64,ratDV]) | refine as1 ?_ | fail)
 (first | refine callA (implBothA x y) ?_ | refine callD (implBothA x y) ?_ | refine callE (implBothA x y) ?_ | refine callF (implBothA x y) ?_ ?_)
 cases hb:(vR x && vR y) with
 | false =>
  rw [hb,if_neg (by decide)] at hT
  repeat' (first | refine sq ?_ | refine stp ?_ | refine blk_o (by decide) ?_ | (apply cb;(focus (simp (disch:=(first | omega | (simp;omega))) only [go_sem,w64,ratDV];try exact rfl));refine cok ?_) | (refine rgT ?_;intro K hK) | (refine dA ?_;intro K hK) | (with_reducible refine hK _ ?_;clear hK K) | (refine stq ?_;simp (disch:=(first | omega | (simp;omega))) only [go_sem,w64,ratDV]) | refine as1 ?_ | fail)
  (refine endA (r:=.tup [.d (.agg [.int 0,.int 0]),.d (.bool false)]) ?_)
  exact ⟨by rw [hT];rfl,rfl⟩
 | true =>
  rw [hb,if_pos rfl] at hT
  obtain ⟨o1,o2,o3,o4,o5⟩:=ops_bd (an:=x.num) (ad:=x.den) (bn:=y.num) (bd:=y.den) hb
  have w1:IntKind.i64.wrap (x.num*y.den)=x.num*y.den:=w64 (by omega)
  have w2:IntKind.i64.wrap (y.num*x.den)=y.num*x.den:=w64 (by omega)
  have w3:IntKind.i64.wrap (x.num*y.den+y.num*x.den)=x.num*y.den+y.num*x.den:=w64 (by omega)
  have w4:IntKind.i64.wrap (x.den*y.den)=x.den*y.den:=w64 (by omega)
  repeat' (first | refine sq ?_ | refine stp ?_ | refine blk_o (by decide) ?_ | (apply cb;(focus (simp (disch:=(first | omega | (simp;omega))) only [go_sem,w64,ratDV,w1,w2,w3,w4];try exact rfl));refine cok ?_) | (refine rgT ?_;intro K hK) | (refine dA ?_;intro K hK) | (with_reducible refine hK _ ?_;clear hK K) | (refine stq ?_;simp (disch:=(first | omega | (simp;omega))) only [go_sem,w64,ratDV,w1,w2,w3,w4]) | refine as1 ?_ | fail)
  (first | refine callA (implNewA (x.num*y.den+y.num*x.den) (x.den*y.den)) ?_ | refine callD (implNewA (x.num*y.den+y.num*x.den) (x.den*y.den)) ?_ | refine callE (implNewA (x.num*y.den+y.num*x.den) (x.den*y.den)) ?_ | refine callF (implNewA (x.num*y.den+y.num*x.den) (x.den*y.den)) ?_ ?_)
  rw [← hT]
  repeat' (first | refine sq ?_ | refine stp ?_ | refine blk_o (by decide) ?_ | (apply cb;(focus (simp (disch:=(first | omega | (simp;omega))) only [go_sem,w64,tupQ,ratDV];try exact rfl));refine cok ?_) | (refine rgT ?_;intro K hK) | (refine dA ?_;intro K hK) | (with_reducible refine hK _ ?_;clear hK K) | (refine stq ?_;simp (disch:=(first | omega | (simp;omega))) only [go_sem,w64,tupQ,ratDV]) | refine as1 ?_ | fail)
  (refine endA (r:=.tup [.d (.agg [.int (rq (addQ x y)).num,.int (rq (addQ x y)).den]),.d (.bool (addQ x y).2.2)]) ?_)
  exact ⟨rfl,rfl⟩
theorem implMulA:AFn 88 [.d (ratDV x),.d (ratDV y)] [] (fun r os=>r=tupQ (mulQ x y)∧os=[]):=by
 have hT:mulQ x y=if (vR x && vR y)=true then newRat (x.num*y.num) (x.den*y.den) else (0,0,false):=rfl
 refine afn_of (rv:=[.cell 4 33,.tmp 5]) tyT_ok Tryd.func88 rfl (by decide +kernel) Tryd.ntmps88 rfl (by simp) ?_
 repeat' (first | refine sq ?_ | refine stp ?_ | refine blk_o (by decide) ?_ | (apply cb;(focus (simp (disch:=(first | omega | (simp;omega))) only [go_sem,w64,ratDV];try exact rfl));refine cok ?_) | (refine rgT ?_;intro K hK) | (refine dA ?_;intro K hK) | (with_reducible refine hK _ ?_;clear hK K) | (refine stq ?_;simp (disch:=(first | omega | (simp;omega))) only [go_sem,w64,ratDV]) | refine as1 ?_ | fail)
 (first | refine callA (implBothA x y) ?_ | refine callD (implBothA x y) ?_ | refine callE (implBothA x y) ?_ | refine callF (implBothA x y) ?_ ?_)
 cases hb:(vR x && vR y) with
 | false =>
  rw [hb,if_neg (by decide)] at hT
  repeat' (first | refine sq ?_ | refine stp ?_ | refine blk_o (by decide) ?_ | (apply cb;(focus (simp (disch:=(first | omega | (simp;omega))) only [go_sem,w64,ratDV];try exact rfl));refine cok ?_) | (refine rgT ?_;intro K hK) | (refine dA ?_;intro K hK) | (with_reducible refine hK _ ?_;clear hK K) | (refine stq ?_;simp (disch:=(first | omega | (simp;omega))) only [go_sem,w64,ratDV]) | refine as1 ?_ | fail)
  (refine endA (r:=.tup [.d (.agg [.int 0,.int 0]),.d (.bool false)]) ?_)
  exact ⟨by rw [hT];rfl,rfl⟩
 | true =>
  rw [hb,if_pos rfl] at hT
  obtain ⟨o1,o2,o3,o4,o5⟩:=ops_bd (an:=x.num) (ad:=x.den) (bn:=y.num) (bd:=y.den) hb
  have w1:IntKind.i64.wrap (x.num*y.num)=x.num*y.num:=w64 (by omega)
  have w4:IntKind.i64.wrap (x.den*y.den)=x.den*y.den:=w64 (by omega)
  repeat' (first | refine sq ?_ | refine stp ?_ | refine blk_o (by decide) ?_ | (apply cb;(focus (simp (disch:=(first | omega | (simp;omega))) only [go_sem,w64,ratDV,w1,w4];try exact rfl));refine cok ?_) | (refine rgT ?_;intro K hK) | (refine dA ?_;intro K hK) | (with_reducible refine hK _ ?_;clear hK K) | (refine stq ?_;simp (disch:=(first | omega | (simp;omega))) only [go_sem,w64,ratDV,w1,w4]) | refine as1 ?_ | fail)
  (first | refine callA (implNewA (x.num*y.num) (x.den*y.den)) ?_ | refine callD (implNewA (x.num*y.num) (x.den*y.den)) ?_ | refine callE (implNewA (x.num*y.num) (x.den*y.den)) ?_ | refine callF (implNewA (x.num*y.num) (x.den*y.den)) ?_ ?_)
  rw [← hT]
  repeat' (first | refine sq ?_ | refine stp ?_ | refine blk_o (by decide) ?_ | (apply cb;(focus (simp (disch:=(first | omega | (simp;omega))) only [go_sem,w64,tupQ,ratDV];try exact rfl));refine cok ?_) | (refine rgT ?_;intro K hK) | (refine dA ?_;intro K hK) | (with_reducible refine hK _ ?_;clear hK K) | (refine stq ?_;simp (disch:=(first | omega | (simp;omega))) only [go_sem,w64,tupQ,ratDV]) | refine as1 ?_ | fail)
  (refine endA (r:=.tup [.d (.agg [.int (rq (mulQ x y)).num,.int (rq (mulQ x y)).den]),.d (.bool (mulQ x y).2.2)]) ?_)
  exact ⟨rfl,rfl⟩
theorem specAddA:AFn 44 [.d (ratDV x),.d (ratDV y)] [] (fun r os=>r=tupQ (addQ x y)∧os=[]):=by
 have hT:addQ x y=if (vR x && vR y)=true then newRat (x.num*y.den+y.num*x.den) (x.den*y.den) else (0,0,false):=rfl
 refine afn_of (rv:=[.cell 4 33,.tmp 5]) tyT_ok Tryd.func44 rfl (by decide +kernel) Tryd.ntmps44 rfl (by simp) ?_
 repeat' (first | refine sq ?_ | refine stp ?_ | refine blk_o (by decide) ?_ | (apply cb;(focus (simp (disch:=(first | omega | (simp;omega))) only [go_sem,w64,ratDV];try exact rfl));refine cok ?_) | (refine rgT ?_;intro K hK) | (refine dA ?_;intro K hK) | (with_reducible refine hK _ ?_;clear hK K) | (refine stq ?_;simp (disch:=(first | omega | (simp;omega))) only [go_sem,w64,ratDV]) | refine as1 ?_ | fail)
 (first | refine callA (specValidRA x) ?_ | refine callD (specValidRA x) ?_ | refine callE (specValidRA x) ?_ | refine callF (specValidRA x) ?_ ?_)
 cases hx:vR x with
 | false =>
  rw [hx,if_neg (by simp)] at hT
  repeat' (first | refine sq ?_ | refine stp ?_ | refine blk_o (by decide) ?_ | (apply cb;(focus (simp (disch:=(first | omega | (simp;omega))) only [go_sem,w64,ratDV];try exact rfl));refine cok ?_) | (refine rgT ?_;intro K hK) | (refine dA ?_;intro K hK) | (with_reducible refine hK _ ?_;clear hK K) | (refine stq ?_;simp (disch:=(first | omega | (simp;omega))) only [go_sem,w64,ratDV]) | refine as1 ?_ | fail)
  (refine endA (r:=.tup [.d (.agg [.int 0,.int 0]),.d (.bool false)]) ?_)
  exact ⟨by rw [hT];rfl,rfl⟩
 | true =>
  repeat' (first | refine sq ?_ | refine stp ?_ | refine blk_o (by decide) ?_ | (apply cb;(focus (simp (disch:=(first | omega | (simp;omega))) only [go_sem,w64,ratDV];try exact rfl));refine cok ?_) | (refine rgT ?_;intro K hK) | (refine dA ?_;intro K hK) | (with_reducible refine hK _ ?_;clear hK K) | (refine stq ?_;simp (disch:=(first | omega | (simp;omega))) only [go_sem,w64,ratDV]) | refine as1 ?_ | fail)
  (first | refine callA (specValidRA y) ?_ | refine callD (specValidRA y) ?_ | refine callE (specValidRA y) ?_ | refine callF (specValidRA y) ?_ ?_)
  cases hy:vR y with
  | false =>
   rw [hx,hy,if_neg (by simp)] at hT
   repeat' (first | refine sq ?_ | refine stp ?_ | refine blk_o (by decide) ?_ | (apply cb;(focus (simp (disch:=(first | omega | (simp;omega))) only [go_sem,w64,ratDV];try exact rfl));refine cok ?_) | (refine rgT ?_;intro K hK) | (refine dA ?_;intro K hK) | (with_reducible refine hK _ ?_;clear hK K) | (refine stq ?_;simp (disch:=(first | omega | (simp;omega))) only [go_sem,w64,ratDV]) | refine as1 ?_ | fail)
   (refine endA (r:=.tup [.d (.agg [.int 0,.int 0]),.d (.bool false)]) ?_)
   exact ⟨by rw [hT];rfl,rfl⟩
  | true =>
   have hb:bothOK x.num x.den y.num y.den=true:=by show (vR x && vR y)=true;rw [hx,hy];rfl
   rw [hx,hy,Bool.true_and,if_pos rfl] at hT
   obtain ⟨o1,o2,o3,o4,o5⟩:=ops_bd (an:=x.num) (ad:=x.den) (bn:=y.num) (bd:=y.den) hb
   have w1:IntKind.i64.wrap (x.num*y.den)=x.num*y.den:=w64 (by omega)
   have w2:IntKind.i64.wrap (y.num*x.den)=y.num*x.den:=w64 (by omega)
   have w3:IntKind.i64.wrap (x.num*y.den+y.num*x.den)=x.num*y.den+y.num*x.den:=w64 (by omega)
   have w4:IntKind.i64.wrap (x.den*y.den)=x.den*y.den:=w64 (by omega)
   repeat' (first | refine sq ?_ | refine stp ?_ | refine blk_o (by decide) ?_ | (apply cb;(focus (simp (disch:=(first | omega | (simp;omega))) only [go_sem,w64,ratDV,w1,w2,w3,w4];try exact rfl));refine cok ?_) | (refine rgT ?_;intro K hK) | (refine dA ?_;intro K hK) | (with_reducible refine hK _ ?_;clear hK K) | (refine stq ?_;simp (disch:=(first | omega | (simp;omega))) only [go_sem,w64,ratDV,w1,w2,w3,w4]) | refine as1 ?_ | fail)
   (first | refine callA (specNewA (x.num*y.den+y.num*x.den) (x.den*y.den)) ?_ | refine callD (specNewA (x.num*y.den+y.num*x.den) (x.den*y.den)) ?_ | refine callE (specNewA (x.num*y.den+y.num*x.den) (x.den*y.den)) ?_ | refine callF (specNewA (x.num*y.den+y.num*x.den) (x.den*y.den)) ?_ ?_)
   rw [← hT]
   repeat' (first | refine sq ?_ | refine stp ?_ | refine blk_o (by decide) ?_ | (apply cb;(focus (simp (disch:=(first | omega | (simp;omega))) only [go_sem,w64,tupQ,ratDV];try exact rfl));refine cok ?_) | (refine rgT ?_;intro K hK) | (refine dA ?_;intro K hK) | (with_reducible refine hK _ ?_;clear hK K) | (refine stq ?_;simp (disch:=(first | omega | (simp;omega))) only [go_sem,w64,tupQ,ratDV]) | refine as1 ?_ | fail)
   (refine endA (r:=.tup [.d (.agg [.int (rq (addQ x y)).num,.int (rq (addQ x y)).den]),.d (.bool (addQ x y).2.2)]) ?_)
   exact ⟨rfl,rfl⟩
theorem specMulA:AFn 27 [.d (ratDV x),.d (ratDV y)] [] (fun r os=>r=tupQ (mulQ x y)∧os=[]):=by
 have hT:mulQ x y=if (vR x && vR y)=true then newRat (x.num*y.num) (x.den*y.den) else (0,0,false):=rfl
 refine afn_of (rv:=[.cell 4 33,.tmp 5]) tyT_ok Tryd.func27 rfl (by decide +kernel) Tryd.ntmps27 rfl (by simp) ?_
 repeat' (first | refine sq ?_ | refine stp ?_ | refine blk_o (by decide) ?_ | (apply cb;(focus (simp (disch:=(first | omega | (simp;omega))) only [go_sem,w64,ratDV];try exact rfl));refine cok ?_) | (refine rgT ?_;intro K hK) | (refine dA ?_;intro K hK) | (with_reducible refine hK _ ?_;clear hK K) | (refine stq ?_;simp (disch:=(first | omega | (simp;omega))) only [go_sem,w64,ratDV]) | refine as1 ?_ | fail)
 (first | refine callA (specValidRA x) ?_ | refine callD (specValidRA x) ?_ | refine callE (specValidRA x) ?_ | refine callF (specValidRA x) ?_ ?_)
 cases hx:vR x with
 | false =>
  rw [hx,if_neg (by simp)] at hT
  repeat' (first | refine sq ?_ | refine stp ?_ | refine blk_o (by decide) ?_ | (apply cb;(focus (simp (disch:=(first | omega | (simp;omega))) only [go_sem,w64,ratDV];try exact rfl));refine cok ?_) | (refine rgT ?_;intro K hK) | (refine dA ?_;intro K hK) | (with_reducible refine hK _ ?_;clear hK K) | (refine stq ?_;simp (disch:=(first | omega | (simp;omega))) only [go_sem,w64,ratDV]) | refine as1 ?_ | fail)
  (refine endA (r:=.tup [.d (.agg [.int 0,.int 0]),.d (.bool false)]) ?_)
  exact ⟨by rw [hT];rfl,rfl⟩
 | true =>
  repeat' (first | refine sq ?_ | refine stp ?_ | refine blk_o (by decide) ?_ | (apply cb;(focus (simp (disch:=(first | omega | (simp;omega))) only [go_sem,w64,ratDV];try exact rfl));refine cok ?_) | (refine rgT ?_;intro K hK) | (refine dA ?_;intro K hK) | (with_reducible refine hK _ ?_;clear hK K) | (refine stq ?_;simp (disch:=(first | omega | (simp;omega))) only [go_sem,w64,ratDV]) | refine as1 ?_ | fail)
  (first | refine callA (specValidRA y) ?_ | refine callD (specValidRA y) ?_ | refine callE (specValidRA y) ?_ | refine callF (specValidRA y) ?_ ?_)
  cases hy:vR y with
  | false =>
   rw [hx,hy,if_neg (by simp)] at hT
   repeat' (first | refine sq ?_ | refine stp ?_ | refine blk_o (by decide) ?_ | (apply cb;(focus (simp (disch:=(first | omega | (simp;omega))) only [go_sem,w64,ratDV];try exact rfl));refine cok ?_) | (refine rgT ?_;intro K hK) | (refine dA ?_;intro K hK) | (with_reducible refine hK _ ?_;clear hK K) | (refine stq ?_;simp (disch:=(first | omega | (simp;omega))) only [go_sem,w64,ratDV]) | refine as1 ?_ | fail)
   (refine endA (r:=.tup [.d (.agg [.int 0,.int 0]),.d (.bool false)]) ?_)
   exact ⟨by rw [hT];rfl,rfl⟩
  | true =>
   have hb:bothOK x.num x.den y.num y.den=true:=by show (vR x && vR y)=true;rw [hx,hy];rfl
   rw [hx,hy,Bool.true_and,if_pos rfl] at hT
   obtain ⟨o1,o2,o3,o4,o5⟩:=ops_bd (an:=x.num) (ad:=x.den) (bn:=y.num) (bd:=y.den) hb
   have w1:IntKind.i64.wrap (x.num*y.num)=x.num*y.num:=w64 (by omega)
   have w2:IntKind.i64.wrap (x.den*y.den)=x.den*y.den:=w64 (by omega)
   repeat' (first | refine sq ?_ | refine stp ?_ | refine blk_o (by decide) ?_ | (apply cb;(focus (simp (disch:=(first | omega | (simp;omega))) only [go_sem,w64,ratDV,w1,w2];try exact rfl));refine cok ?_) | (refine rgT ?_;intro K hK) | (refine dA ?_;intro K hK) | (with_reducible refine hK _ ?_;clear hK K) | (refine stq ?_;simp (disch:=(first | omega | (simp;omega))) only [go_sem,w64,ratDV,w1,w2]) | refine as1 ?_ | fail)
   (first | refine callA (specNewA (x.num*y.num) (x.den*y.den)) ?_ | refine callD (specNewA (x.num*y.num) (x.den*y.den)) ?_ | refine callE (specNewA (x.num*y.num) (x.den*y.den)) ?_ | refine callF (specNewA (x.num*y.num) (x.den*y.den)) ?_ ?_)
   rw [← hT]
   repeat' (first | refine sq ?_ | refine stp ?_ | refine blk_o (by decide) ?_ | (apply cb;(focus (simp (disch:=(first | omega | (simp;omega))) only [go_sem,w64,tupQ,ratDV];try exact rfl));refine cok ?_) | (refine rgT ?_;intro K hK) | (refine dA ?_;intro K hK) | (with_reducible refine hK _ ?_;clear hK K) | (refine stq ?_;simp (disch:=(first | omega | (simp;omega))) only [go_sem,w64,tupQ,ratDV]) | refine as1 ?_ | fail)
   (refine endA (r:=.tup [.d (.agg [.int (rq (mulQ x y)).num,.int (rq (mulQ x y)).den]),.d (.bool (mulQ x y).2.2)]) ?_)
   exact ⟨rfl,rfl⟩
theorem implDivA:AFn 91 [.d (ratDV x),.d (ratDV y)] [] (fun r os=>r=tupQ (divQ x y)∧os=[]):=by
 have hT:divQ x y=if (vR x && vR y)=true then newRat (x.num*y.den) (x.den*y.num) else (0,0,false):=rfl
 refine afn_of (rv:=[.cell 4 33,.tmp 5]) tyT_ok Tryd.func91 rfl (by decide +kernel) Tryd.ntmps91 rfl (by simp) ?_
 repeat' (first | refine sq ?_ | refine stp ?_ | refine blk_o (by decide) ?_ | (apply cb;(focus (simp (disch:=(first | omega | (simp;omega))) only [go_sem,w64,ratDV];try exact rfl));refine cok ?_) | (refine rgT ?_;intro K hK) | (refine dA ?_;intro K hK) | (with_reducible refine hK _ ?_;clear hK K) | (refine stq ?_;simp (disch:=(first | omega | (simp;omega))) only [go_sem,w64,ratDV]) | refine as1 ?_ | fail)
 (first | refine callA (implBothA x y) ?_ | refine callD (implBothA x y) ?_ | refine callE (implBothA x y) ?_ | refine callF (implBothA x y) ?_ ?_)
 cases hb:(vR x && vR y) with
 | false =>
  rw [hb,if_neg (by decide)] at hT
  repeat' (first | refine sq ?_ | refine stp ?_ | refine blk_o (by decide) ?_ | (apply cb;(focus (simp (disch:=(first | omega | (simp;omega))) only [go_sem,w64,ratDV];try exact rfl));refine cok ?_) | (refine rgT ?_;intro K hK) | (refine dA ?_;intro K hK) | (with_reducible refine hK _ ?_;clear hK K) | (refine stq ?_;simp (disch:=(first | omega | (simp;omega))) only [go_sem,w64,ratDV]) | refine as1 ?_ | fail)
  (refine endA (r:=.tup [.d (.agg [.int 0,.int 0]),.d (.bool false)]) ?_)
  exact ⟨by rw [hT];rfl,rfl⟩
 | true =>
  rw [hb,if_pos rfl] at hT
  by_cases hz:y.num=0
  ·rw [newRat_no (.inl (by rw [hz,Int.mul_zero]))] at hT
   have z1:decide (y.num=0)=true:=decide_eq_true hz
   repeat' (first | refine sq ?_ | refine stp ?_ | refine blk_o (by decide) ?_ | (apply cb;(focus (simp (disch:=(first | omega | (simp;omega))) only [go_sem,w64,ratDV,z1];try exact rfl));refine cok ?_) | (refine rgT ?_;intro K hK) | (refine dA ?_;intro K hK) | (with_reducible refine hK _ ?_;clear hK K) | (refine stq ?_;simp (disch:=(first | omega | (simp;omega))) only [go_sem,w64,ratDV,z1]) | refine as1 ?_ | fail)
   (refine endA (r:=.tup [.d (.agg [.int 0,.int 0]),.d (.bool false)]) ?_)
   exact ⟨by rw [hT];rfl,rfl⟩
  have z1:decide (y.num=0)=false:=decide_eq_false hz
  obtain ⟨o1,o2,o3,o4,o5⟩:=ops_bd (an:=x.num) (ad:=x.den) (bn:=y.num) (bd:=y.den) hb
  have w1:IntKind.i64.wrap (x.num*y.den)=x.num*y.den:=w64 (by omega)
  have w2:IntKind.i64.wrap (x.den*y.num)=x.den*y.num:=w64 (by omega)
  repeat' (first | refine sq ?_ | refine stp ?_ | refine blk_o (by decide) ?_ | (apply cb;(focus (simp (disch:=(first | omega | (simp;omega))) only [go_sem,w64,ratDV,z1,w1,w2];try exact rfl));refine cok ?_) | (refine rgT ?_;intro K hK) | (refine dA ?_;intro K hK) | (with_reducible refine hK _ ?_;clear hK K) | (refine stq ?_;simp (disch:=(first | omega | (simp;omega))) only [go_sem,w64,ratDV,z1,w1,w2]) | refine as1 ?_ | fail)
  (first | refine callA (implNewA (x.num*y.den) (x.den*y.num)) ?_ | refine callD (implNewA (x.num*y.den) (x.den*y.num)) ?_ | refine callE (implNewA (x.num*y.den) (x.den*y.num)) ?_ | refine callF (implNewA (x.num*y.den) (x.den*y.num)) ?_ ?_)
  rw [← hT]
  repeat' (first | refine sq ?_ | refine stp ?_ | refine blk_o (by decide) ?_ | (apply cb;(focus (simp (disch:=(first | omega | (simp;omega))) only [go_sem,w64,tupQ,ratDV];try exact rfl));refine cok ?_) | (refine rgT ?_;intro K hK) | (refine dA ?_;intro K hK) | (with_reducible refine hK _ ?_;clear hK K) | (refine stq ?_;simp (disch:=(first | omega | (simp;omega))) only [go_sem,w64,tupQ,ratDV]) | refine as1 ?_ | fail)
  (refine endA (r:=.tup [.d (.agg [.int (rq (divQ x y)).num,.int (rq (divQ x y)).den]),.d (.bool (divQ x y).2.2)]) ?_)
  exact ⟨rfl,rfl⟩
end
theorem cmpIA (x y:Int):AFn 39 [.d (.int x),.d (.int y)] [] (fun r os=>r=.d (.int (cmpI x y))∧os=[]):=by
 refine afn_of (rv:=[.tmp 4]) tyT_ok Tryd.func39 rfl (by decide +kernel) Tryd.ntmps39 rfl (by simp) ?_
 repeat' (first | refine sq ?_ | refine stp ?_ | refine blk_o (by decide) ?_ | (apply cb;(focus (simp (disch:=(first | omega | (simp;omega))) only [go_sem,w64];try exact rfl));refine cok ?_) | (refine rgT ?_;intro K hK) | (refine dA ?_;intro K hK) | (with_reducible refine hK _ ?_;clear hK K) | (refine stq ?_;simp (disch:=(first | omega | (simp;omega))) only [go_sem,w64]) | refine as1 ?_ | fail)
 refine awp_if (p:=x<y) (by simp (disch:=(first | omega | (simp;omega))) only [go_sem,w64]) ?_ ?_ <;> intro h1
 ·repeat' (first | refine sq ?_ | refine stp ?_ | refine blk_o (by decide) ?_ | (apply cb;(focus (simp (disch:=(first | omega | (simp;omega))) only [go_sem,w64];try exact rfl));refine cok ?_) | (refine rgT ?_;intro K hK) | (refine dA ?_;intro K hK) | (with_reducible refine hK _ ?_;clear hK K) | (refine stq ?_;simp (disch:=(first | omega | (simp;omega))) only [go_sem,w64]) | refine as1 ?_ | fail)
  (refine endA (r:=.d (.int (-1))) ?_)
  exact ⟨by rw [cmpI_lt h1],rfl⟩
 ·repeat' (first | refine sq ?_ | refine stp ?_ | refine blk_o (by decide) ?_ | (apply cb;(focus (simp (disch:=(first | omega | (simp;omega))) only [go_sem,w64];try exact rfl));refine cok ?_) | (refine rgT ?_;intro K hK) | (refine dA ?_;intro K hK) | (with_reducible refine hK _ ?_;clear hK K) | (refine stq ?_;simp (disch:=(first | omega | (simp;omega))) only [go_sem,w64]) | refine as1 ?_ | fail)
  refine awp_if (p:=y<x) (by simp (disch:=(first | omega | (simp;omega))) only [go_sem,w64]) ?_ ?_ <;> intro h2
  ·repeat' (first | refine sq ?_ | refine stp ?_ | refine blk_o (by decide) ?_ | (apply cb;(focus (simp (disch:=(first | omega | (simp;omega))) only [go_sem,w64];try exact rfl));refine cok ?_) | (refine rgT ?_;intro K hK) | (refine dA ?_;intro K hK) | (with_reducible refine hK _ ?_;clear hK K) | (refine stq ?_;simp (disch:=(first | omega | (simp;omega))) only [go_sem,w64]) | refine as1 ?_ | fail)
   (refine endA (r:=.d (.int 1)) ?_)
   exact ⟨by rw [cmpI_gt h2],rfl⟩
  ·repeat' (first | refine sq ?_ | refine stp ?_ | refine blk_o (by decide) ?_ | (apply cb;(focus (simp (disch:=(first | omega | (simp;omega))) only [go_sem,w64];try exact rfl));refine cok ?_) | (refine rgT ?_;intro K hK) | (refine dA ?_;intro K hK) | (with_reducible refine hK _ ?_;clear hK K) | (refine stq ?_;simp (disch:=(first | omega | (simp;omega))) only [go_sem,w64]) | refine as1 ?_ | fail)
   (refine endA (r:=.d (.int 0)) ?_)
   exact ⟨by rw [cmpI_eq h1 h2],rfl⟩
theorem implCmpA (x y:RatD):AFn 14 [.d (ratDV x),.d (ratDV y)] [] (fun r os=>r=.d (.int (cmpQ x y))∧os=[]):=by
 refine afn_of (rv:=[.tmp 4]) tyT_ok Tryd.func14 rfl (by decide +kernel) Tryd.ntmps14 rfl (by simp) ?_
 have hb:=implBothA x y
 have e0:(vR x && vR y)=bothOK x.num x.den y.num y.den:=rfl
 rw [e0] at hb
 repeat' (first | refine sq ?_ | refine stp ?_ | refine blk_o (by decide) ?_ | (apply cb;(focus (simp (disch:=(first | omega | (simp;omega))) only [go_sem,w64,ratDV];try exact rfl));refine cok ?_) | (refine rgT ?_;intro K hK) | (refine dA ?_;intro K hK) | (with_reducible refine hK _ ?_;clear hK K) | (refine stq ?_;simp (disch:=(first | omega | (simp;omega))) only [go_sem,w64,ratDV]) | refine as1 ?_ | fail)
 (first | refine callA (hb) ?_ | refine callD (hb) ?_ | refine callE (hb) ?_ | refine callF (hb) ?_ ?_)
 cases h:bothOK x.num x.den y.num y.den with
 | false =>
  repeat' (first | refine sq ?_ | refine stp ?_ | refine blk_o (by decide) ?_ | (apply cb;(focus (simp (disch:=(first | omega | (simp;omega))) only [go_sem,w64];try exact rfl));refine cok ?_) | (refine rgT ?_;intro K hK) | (refine dA ?_;intro K hK) | (with_reducible refine hK _ ?_;clear hK K) | (refine stq ?_;simp (disch:=(first | omega | (simp;omega))) only [go_sem,w64]) | refine as1 ?_ | fail)
  (refine endA (r:=.d (.int 0)) ?_)
  exact ⟨by unfold cmpQ;rw [cmpRat_no h],rfl⟩
 | true =>
  obtain ⟨b1,b2,_⟩:=ops_bd h
  have w1:IntKind.i64.wrap (x.num*y.den)=x.num*y.den:=w64 (by omega)
  have w2:IntKind.i64.wrap (y.num*x.den)=y.num*x.den:=w64 (by omega)
  repeat' (first | refine sq ?_ | refine stp ?_ | refine blk_o (by decide) ?_ | (apply cb;(focus (simp (disch:=(first | omega | (simp;omega))) only [go_sem,w64,w1,w2];try exact rfl));refine cok ?_) | (refine rgT ?_;intro K hK) | (refine dA ?_;intro K hK) | (with_reducible refine hK _ ?_;clear hK K) | (refine stq ?_;simp (disch:=(first | omega | (simp;omega))) only [go_sem,w64,w1,w2]) | refine as1 ?_ | fail)
  (first | refine callA (cmpIA (x.num*y.den) (y.num*x.den)) ?_ | refine callD (cmpIA (x.num*y.den) (y.num*x.den)) ?_ | refine callE (cmpIA (x.num*y.den) (y.num*x.den)) ?_ | refine callF (cmpIA (x.num*y.den) (y.num*x.den)) ?_ ?_)
  repeat' (first | refine sq ?_ | refine stp ?_ | refine blk_o (by decide) ?_ | (apply cb;(focus (simp (disch:=(first | omega | (simp;omega))) only [go_sem,w64];try exact rfl));refine cok ?_) | (refine rgT ?_;intro K hK) | (refine dA ?_;intro K hK) | (with_reducible refine hK _ ?_;clear hK K) | (refine stq ?_;simp (disch:=(first | omega | (simp;omega))) only [go_sem,w64]) | refine as1 ?_ | fail)
  (refine endA (r:=.d (.int (cmpI (x.num*y.den) (y.num*x.den)))) ?_)
  exact ⟨by unfold cmpQ;rw [cmpRat_yes h],rfl⟩
theorem specCmpA (x y:RatD):AFn 33 [.d (ratDV x),.d (ratDV y)] [] (fun r os=>r=.d (.int (cmpQ x y))∧os=[]):=by
 refine afn_of (rv:=[.tmp 4]) tyT_ok Tryd.func33 rfl (by decide +kernel) Tryd.ntmps33 rfl (by simp) ?_
 have hb1:=specValidRA x
 have hb2:=specValidRA y
 have e0:(vR x && vR y)=bothOK x.num x.den y.num y.den:=rfl
 repeat' (first | refine sq ?_ | refine stp ?_ | refine blk_o (by decide) ?_ | (apply cb;(focus (simp (disch:=(first | omega | (simp;omega))) only [go_sem,w64,ratDV];try exact rfl));refine cok ?_) | (refine rgT ?_;intro K hK) | (refine dA ?_;intro K hK) | (with_reducible refine hK _ ?_;clear hK K) | (refine stq ?_;simp (disch:=(first | omega | (simp;omega))) only [go_sem,w64,ratDV]) | refine as1 ?_ | fail)
 (first | refine callA (hb1) ?_ | refine callD (hb1) ?_ | refine callE (hb1) ?_ | refine callF (hb1) ?_ ?_)
 cases h1:vR x with
 | false =>
  rw [h1,Bool.false_and] at e0
  repeat' (first | refine sq ?_ | refine stp ?_ | refine blk_o (by decide) ?_ | (apply cb;(focus (simp (disch:=(first | omega | (simp;omega))) only [go_sem,w64];try exact rfl));refine cok ?_) | (refine rgT ?_;intro K hK) | (refine dA ?_;intro K hK) | (with_reducible refine hK _ ?_;clear hK K) | (refine stq ?_;simp (disch:=(first | omega | (simp;omega))) only [go_sem,w64]) | refine as1 ?_ | fail)
  (refine endA (r:=.d (.int 0)) ?_)
  exact ⟨by unfold cmpQ;rw [cmpRat_no e0.symm],rfl⟩
 | true =>
  rw [h1,Bool.true_and] at e0
  repeat' (first | refine sq ?_ | refine stp ?_ | refine blk_o (by decide) ?_ | (apply cb;(focus (simp (disch:=(first | omega | (simp;omega))) only [go_sem,w64,ratDV];try exact rfl));refine cok ?_) | (refine rgT ?_;intro K hK) | (refine dA ?_;intro K hK) | (with_reducible refine hK _ ?_;clear hK K) | (refine stq ?_;simp (disch:=(first | omega | (simp;omega))) only [go_sem,w64,ratDV]) | refine as1 ?_ | fail)
  (first | refine callA (hb2) ?_ | refine callD (hb2) ?_ | refine callE (hb2) ?_ | refine callF (hb2) ?_ ?_)
  cases h2:vR y with
  | false =>
   rw [h2] at e0
   repeat' (first | refine sq ?_ | refine stp ?_ | refine blk_o (by decide) ?_ | (apply cb;(focus (simp (disch:=(first | omega | (simp;omega))) only [go_sem,w64];try exact rfl));refine cok ?_) | (refine rgT ?_;intro K hK) | (refine dA ?_;intro K hK) | (with_reducible refine hK _ ?_;clear hK K) | (refine stq ?_;simp (disch:=(first | omega | (simp;omega))) only [go_sem,w64]) | refine as1 ?_ | fail)
   (refine endA (r:=.d (.int 0)) ?_)
   exact ⟨by unfold cmpQ;rw [cmpRat_no e0.symm],rfl⟩
  | true =>
   rw [h2] at e0
   obtain ⟨b1,b2,_⟩:=ops_bd e0.symm
   have hc:cmpQ x y=cmpI (x.num*y.den) (y.num*x.den):=by unfold cmpQ;rw [cmpRat_yes e0.symm]
   obtain ⟨a,ea⟩:∃ a,x.num*y.den=a:=⟨_,rfl⟩
   obtain ⟨b,eb⟩:∃ b,y.num*x.den=b:=⟨_,rfl⟩
   have w1:IntKind.i64.wrap (x.num*y.den)=a:=by rw [← ea];exact w64 (by omega)
   have w2:IntKind.i64.wrap (y.num*x.den)=b:=by rw [← eb];exact w64 (by omega)
   rw [ea,eb] at hc
   repeat' (first | refine sq ?_ | refine stp ?_ | refine blk_o (by decide) ?_ | (apply cb;(focus (simp (disch:=(first | omega | (simp;omega))) only [go_sem,w64,w1,w2];try exact rfl));refine cok ?_) | (refine rgT ?_;intro K hK) | (refine dA ?_;intro K hK) | (with_reducible refine hK _ ?_;clear hK K) | (refine stq ?_;simp (disch:=(first | omega | (simp;omega))) only [go_sem,w64,w1,w2]) | refine as1 ?_ | fail)
   refine awp_if (p:=a<b) (by simp (disch:=(first | omega | (simp;omega))) only [go_sem,w64]) ?_ ?_ <;> intro k1
   ·repeat' (first | refine sq ?_ | refine stp ?_ | refine blk_o (by decide) ?_ | (apply cb;(focus (simp (disch:=(first | omega | (simp;omega))) only [go_sem,w64];try exact rfl));refine cok ?_) | (refine rgT ?_;intro K hK) | (refine dA ?_;intro K hK) | (with_reducible refine hK _ ?_;clear hK K) | (refine stq ?_;simp (disch:=(first | omega | (simp;omega))) only [go_sem,w64]) | refine as1 ?_ | fail)
    (refine endA (r:=.d (.int (-1))) ?_)
    exact ⟨by rw [hc,cmpI_lt k1],rfl⟩
   ·repeat' (first | refine sq ?_ | refine stp ?_ | refine blk_o (by decide) ?_ | (apply cb;(focus (simp (disch:=(first | omega | (simp;omega))) only [go_sem,w64];try exact rfl));refine cok ?_) | (refine rgT ?_;intro K hK) | (refine dA ?_;intro K hK) | (with_reducible refine hK _ ?_;clear hK K) | (refine stq ?_;simp (disch:=(first | omega | (simp;omega))) only [go_sem,w64]) | refine as1 ?_ | fail)
    refine awp_if (p:=b<a) (by simp (disch:=(first | omega | (simp;omega))) only [go_sem,w64]) ?_ ?_ <;> intro k2
    ·repeat' (first | refine sq ?_ | refine stp ?_ | refine blk_o (by decide) ?_ | (apply cb;(focus (simp (disch:=(first | omega | (simp;omega))) only [go_sem,w64];try exact rfl));refine cok ?_) | (refine rgT ?_;intro K hK) | (refine dA ?_;intro K hK) | (with_reducible refine hK _ ?_;clear hK K) | (refine stq ?_;simp (disch:=(first | omega | (simp;omega))) only [go_sem,w64]) | refine as1 ?_ | fail)
     (refine endA (r:=.d (.int 1)) ?_)
     exact ⟨by rw [hc,cmpI_gt k2],rfl⟩
    ·repeat' (first | refine sq ?_ | refine stp ?_ | refine blk_o (by decide) ?_ | (apply cb;(focus (simp (disch:=(first | omega | (simp;omega))) only [go_sem,w64];try exact rfl));refine cok ?_) | (refine rgT ?_;intro K hK) | (refine dA ?_;intro K hK) | (with_reducible refine hK _ ?_;clear hK K) | (refine stq ?_;simp (disch:=(first | omega | (simp;omega))) only [go_sem,w64]) | refine as1 ?_ | fail)
     (refine endA (r:=.d (.int 0)) ?_)
     exact ⟨by rw [hc,cmpI_eq k1 k2],rfl⟩
theorem addR_no {a b c d:Int} (h:ratOK c d=false):addR a b c d=(0,0,false):=by
 unfold addR bothOK
 rw [h];simp
theorem subQ_no {x y:RatD} (h:vR y=false):subQ x y=(0,0,false):=by
 unfold subQ subR
 exact addR_no (by rw [ratOK_neg];exact h)
theorem afn_learn {f:FuncId} {args:List AV} {os0:List (List AV)} {R:AV→List (List AV)→Prop} {φ:Prop} (hf:FnOK f) (h:∀ G w vs,CVs G w args vs→φ) (k:φ→AFn f args os0 R):AFn f args os0 R:=⟨hf,fun w G vs h1=>(k (h _ _ _ h1)).2 w G vs h1⟩
theorem subQ_neg (x y:RatD):addQ x ⟨0 - y.num,y.den⟩=subQ x y:=by
 unfold addQ subQ subR
 rw [Int.zero_sub]
theorem implSubA (x y:RatD):AFn 93 [.d (ratDV x),.d (ratDV y)] [] (fun r os=>r=tupQ (subQ x y)∧os=[]):=by
 refine afn_learn (φ:=I64 y.num) (fnOK (by kernel_rfl)) (fun G w vs h=>?_) (fun hI=>?_)
 ·obtain ⟨v,_,rfl,h1,u,_,rfl,h2,rfl⟩:=h
  exact (cv_ratS h2).2.1
 refine afn_of (rv:=[.cell 4 33,.tmp 5]) tyT_ok Tryd.func93 rfl (by decide +kernel) Tryd.ntmps93 rfl (by simp) ?_
 have key:∃ z,IntKind.i64.wrap (0 - y.num)=z∧addQ x ⟨z,y.den⟩=subQ x y:=by
  by_cases hy:-1000000000≤y.num∧y.num≤1000000000
  ·exact ⟨0 - y.num,w64 (by omega),subQ_neg x y⟩
  ·refine ⟨_,rfl,?_⟩
   rw [subQ_no (ratOK_n hy)]
   refine addR_no (ratOK_n ?_)
   show ¬ (-1000000000≤IntKind.i64.wrap (0 - y.num)∧IntKind.i64.wrap (0 - y.num)≤1000000000)
   unfold I64 at hI
   by_cases hm:y.num = -9223372036854775808
   ·rw [hm];decide
   ·rw [w64 (by omega)];omega
 obtain ⟨z,hz1,hz2⟩:=key
 repeat' (first | refine sq ?_ | refine stp ?_ | refine blk_o (by decide) ?_ | (apply cb;(focus (simp (disch:=(first | omega | (simp;omega))) only [go_sem,w64,ratDV,hz1];try exact rfl));refine cok ?_) | (refine rgT ?_;intro K hK) | (refine dA ?_;intro K hK) | (with_reducible refine hK _ ?_;clear hK K) | (refine stq ?_;simp (disch:=(first | omega | (simp;omega))) only [go_sem,w64,ratDV,hz1]) | refine as1 ?_ | fail)
 (first | refine callA (implAddA x ⟨z,y.den⟩) ?_ | refine callD (implAddA x ⟨z,y.den⟩) ?_ | refine callE (implAddA x ⟨z,y.den⟩) ?_ | refine callF (implAddA x ⟨z,y.den⟩) ?_ ?_)
 rw [hz2]
 repeat' (first | refine sq ?_ | refine stp ?_ | refine blk_o (by decide) ?_ | (apply cb;(focus (simp (disch:=(first | omega | (simp;omega))) only [go_sem,w64,ratDV,tupQ];try exact rfl));refine cok ?_) | (refine rgT ?_;intro K hK) | (refine dA ?_;intro K hK) | (with_reducible refine hK _ ?_;clear hK K) | (refine stq ?_;simp (disch:=(first | omega | (simp;omega))) only [go_sem,w64,ratDV,tupQ]) | refine as1 ?_ | fail)
 (refine endA (r:=.tup [.d (.agg [.int (rq (subQ x y)).num,.int (rq (subQ x y)).den]),.d (.bool (subQ x y).2.2)]) ?_)
 exact ⟨rfl,rfl⟩
end Go.Proofs.YtkohkoiegmcghaaDoor
