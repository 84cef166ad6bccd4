/- Lemmas for the proof of FnExactMaximize, part 24 of 56: no condition of their own. -/
import Derived.Test.YtpbclpopoodklaaZ21
import Derived.Test.YtpbclpopoodklaaZD
import Derived.Test.YtpbclpopoodklaaR4
namespace Go.Proofs.Ytpbclpopoodklaa
set_option linter.unusedSimpArgs false
set_option linter.unusedVariables false
attribute [local go_sem ↓] reduceIte
attribute [local go_sem] Nat.reduceEqDiff Nat.reduceLT Nat.reduceAdd Nat.reduceLeDiff Nat.reduceMul Nat.reduceBEq Nat.reduceSub reduceCtorEq Int.reduceLE Int.reduceNeg Int.reduceLT
open Go.RowKit
def rq (t:Int×Int×Bool):RatD:=⟨t.1,t.2.1⟩
def vR (x:RatD):Bool:=ratOK x.num x.den
def addQ (x y:RatD):Int×Int×Bool:=addR x.num x.den y.num y.den
def subQ (x y:RatD):Int×Int×Bool:=subR x.num x.den y.num y.den
def mulQ (x y:RatD):Int×Int×Bool:=mulR x.num x.den y.num y.den
def divQ (x y:RatD):Int×Int×Bool:=divR x.num x.den y.num y.den
def cmpQ (x y:RatD):Int:=cmpRat x.num x.den y.num y.den
def tupQ (t:Int×Int×Bool):AV:=.tup [.d (ratDV (rq t)),.d (.bool t.2.2)]
theorem cv_ratS {G:Gh} {w:World} {x:RatD} {v:Value} (h:CV G w (.d (ratDV x)) v):v=ratV x.num x.den∧I64 x.num∧I64 x.den:=by
  obtain ⟨us,h1,rfl⟩:=cvAgg.1 h
  obtain ⟨rfl,h2⟩:=cxs_two.1 h1
  exact ⟨rfl,h2⟩
def FitQ (t:Int×Int×Bool):Prop:=(t.2.2=true→ratOK t.1 t.2.1=true)∧(t.2.2=false→t.1=0∧t.2.1=0)
theorem FitQ.i64 {t:Int×Int×Bool} (h:FitQ t):I64 t.1∧I64 t.2.1:=by
  obtain ⟨a,b,c⟩:=t
  cases c with
  | true =>
    obtain ⟨h1,h2,_⟩:=ratOK_out (h.1 rfl)
    dsimp only at h1 h2
    exact ⟨by unfold I64;dsimp only;omega,by unfold I64;dsimp only;omega⟩
  | false =>
    obtain ⟨h1,h2⟩:=h.2 rfl
    simp only at h1 h2
    subst h1;subst h2
    unfold I64;simp
theorem fitNew (n d:Int):FitQ (newRat n d):=by
  unfold newRat
  dsimp only
  repeat' split
  all_goals first | exact ⟨fun h=>(by cases h),fun _=>⟨rfl,rfl⟩⟩ | exact ⟨fun _=>(by assumption),fun h=>(by cases h)⟩
theorem implValidRA (x:RatD):AFn 58 [.d (ratDV x)] [] (fun r os=>r=.d (.bool (vR x))∧os=[]):=by
  refine leaf_afn (fnOK (by kernel_rfl)) (fun _ _=>cvBool.2 rfl) ?_
  rintro w G _ ⟨v,_,rfl,h1,rfl⟩ hC
  obtain ⟨rfl,h2,h3⟩:=cv_ratS h1
  exact implValidRat _ _ w h2 h3
theorem specValidRA (x:RatD):AFn 54 [.d (ratDV x)] [] (fun r os=>r=.d (.bool (vR x))∧os=[]):=by
  refine leaf_afn (fnOK (by kernel_rfl)) (fun _ _=>cvBool.2 rfl) ?_
  rintro w G _ ⟨v,_,rfl,h1,rfl⟩ hC
  obtain ⟨rfl,h2,h3⟩:=cv_ratS h1
  exact specValidRat _ _ w h2 h3
theorem newB_res (t:Int×Int×Bool) (ht:FitQ t) (G:Gh) (w:World):CV G w (tupQ t) (ratB t):=by
  obtain ⟨i1,i2⟩:=ht.i64
  refine ⟨[.agg #[.int .i64 t.1,.int .i64 t.2.1],.bool t.2.2],rfl,_,_,rfl,?_,_,_,rfl,cvBool.2 rfl,rfl⟩
  exact cvAgg.2 ⟨[_,_],cxs_two.2 ⟨rfl,i1,i2⟩,rfl⟩
theorem implNewA (n d:Int):AFn 74 [.d (.int n),.d (.int d)] [] (fun r os=>r=tupQ (newRat n d)∧os=[]):=by
  refine leaf_afn (v:=ratB (newRat n d)) (fnOK (by kernel_rfl)) (newB_res _ (fitNew n d)) ?_
  rintro w G _ ⟨v,_,rfl,h1,u,_,rfl,h2,rfl⟩ hC
  obtain ⟨rfl,a1⟩:=cvInt.1 h1
  obtain ⟨rfl,b1⟩:=cvInt.1 h2
  exact implNewRat _ _ w a1 b1
theorem specNewA (n d:Int):AFn 70 [.d (.int n),.d (.int d)] [] (fun r os=>r=tupQ (newRat n d)∧os=[]):=by
  refine leaf_afn (v:=ratB (newRat n d)) (fnOK (by kernel_rfl)) (newB_res _ (fitNew n d)) ?_
  rintro w G _ ⟨v,_,rfl,h1,u,_,rfl,h2,rfl⟩ hC
  obtain ⟨rfl,a1⟩:=cvInt.1 h1
  obtain ⟨rfl,b1⟩:=cvInt.1 h2
  exact specNewRat _ _ w a1 b1
section
variable (x y:RatD)
theorem implBothA:AFn 66 [.d (ratDV x),.d (ratDV y)] [] (fun r os=>r=.d (.bool (vR x && vR y))∧os=[]):=by
  refine afn_of (rv:=[.tmp 4]) tyT_ok Try.func66 rfl (by decide +kernel) Try.ntmps66 rfl (by simp) ?_
  repeat' (first | refine awp_seq ?_ | refine stp ?_ | refine blk_o (by decide) ?_ | (apply awp_condB;(focus (simp (disch:=(first | omega | (simp;omega))) only [go_sem,w64,ratDV];try exact rfl));first | with_reducible refine condOf_t ?_ | with_reducible refine condOf_f ?_) | (refine awp_region' tyT_ok ?_;intro K hK) | (refine awp_drawA ?_;intro K hK) | (with_reducible refine hK _ ?_;clear hK K) | (refine stq ?_;simp (disch:=(first | omega | (simp;omega))) only [go_sem,w64,ratDV]) | refine and_side ?_ | fail)
  (first | refine callA (implValidRA x) ?_ | refine callD (implValidRA x) ?_ | refine callE (implValidRA x) ?_ | refine callF (implValidRA x) ?_ ?_)
  cases hx:vR x with
  | false =>
    repeat' (first | refine awp_seq ?_ | refine stp ?_ | refine blk_o (by decide) ?_ | (apply awp_condB;(focus (simp (disch:=(first | omega | (simp;omega))) only [go_sem,w64,ratDV];try exact rfl));first | with_reducible refine condOf_t ?_ | with_reducible refine condOf_f ?_) | (refine awp_region' tyT_ok ?_;intro K hK) | (refine awp_drawA ?_;intro K hK) | (with_reducible refine hK _ ?_;clear hK K) | (refine stq ?_;simp (disch:=(first | omega | (simp;omega))) only [go_sem,w64,ratDV]) | refine and_side ?_ | fail)
    (refine endA (r:=.d (.bool false)) ?_)
    exact ⟨by rw [hx];rfl,rfl⟩
  | true =>
    repeat' (first | refine awp_seq ?_ | refine stp ?_ | refine blk_o (by decide) ?_ | (apply awp_condB;(focus (simp (disch:=(first | omega | (simp;omega))) only [go_sem,w64,ratDV];try exact rfl));first | with_reducible refine condOf_t ?_ | with_reducible refine condOf_f ?_) | (refine awp_region' tyT_ok ?_;intro K hK) | (refine awp_drawA ?_;intro K hK) | (with_reducible refine hK _ ?_;clear hK K) | (refine stq ?_;simp (disch:=(first | omega | (simp;omega))) only [go_sem,w64,ratDV]) | refine and_side ?_ | fail)
    (first | refine callA (implValidRA y) ?_ | refine callD (implValidRA y) ?_ | refine callE (implValidRA y) ?_ | refine callF (implValidRA y) ?_ ?_)
    repeat' (first | refine awp_seq ?_ | refine stp ?_ | refine blk_o (by decide) ?_ | (apply awp_condB;(focus (simp (disch:=(first | omega | (simp;omega))) only [go_sem,w64,ratDV];try exact rfl));first | with_reducible refine condOf_t ?_ | with_reducible refine condOf_f ?_) | (refine awp_region' tyT_ok ?_;intro K hK) | (refine awp_drawA ?_;intro K hK) | (with_reducible refine hK _ ?_;clear hK K) | (refine stq ?_;simp (disch:=(first | omega | (simp;omega))) only [go_sem,w64,ratDV]) | refine and_side ?_ | fail)
    (refine endA (r:=.d (.bool (vR y))) ?_)
    exact ⟨by rw [hx];rfl,rfl⟩
theorem implAddA:AFn 65 [.d (ratDV x),.d (ratDV y)] [] (fun r os=>r=tupQ (addQ x y)∧os=[]):=by
  have hT:addQ x y=if (vR x && vR y)=true then newRat (x.num*y.den+y.num*x.den) (x.den*y.den) else (0,0,false):=rfl
  refine afn_of (rv:=[.cell 4 39,.tmp 5]) tyT_ok Try.func65 rfl (by decide +kernel) Try.ntmps65 rfl (by simp) ?_
  repeat' (first | refine awp_seq ?_ | refine stp ?_ | refine blk_o (by decide) ?_ | (apply awp_condB;(focus (simp (disch:=(first | omega | (simp;omega))) only [go_sem,w64,ratDV];try exact rfl));first | with_reducible refine condOf_t ?_ | with_reducible refine condOf_f ?_) | (refine awp_region' tyT_ok ?_;intro K hK) | (refine awp_drawA ?_;intro K hK) | (with_reducible refine hK _ ?_;clear hK K) | (refine stq ?_;simp (disch:=(first | omega | (simp;omega))) only [go_sem,w64,ratDV]) | refine and_side ?_ | fail)
  (first | refine callA (implBothA x y) ?_ | refine callD (implBothA x y) ?_ | refine callE (implBothA x y) ?_ | refine callF (implBothA x y) ?_ ?_)
  cases hb:(vR x && vR y) with
  | false =>
    rw [hb,if_neg (by decide)] at hT
    repeat' (first | refine awp_seq ?_ | refine stp ?_ | refine blk_o (by decide) ?_ | (apply awp_condB;(focus (simp (disch:=(first | omega | (simp;omega))) only [go_sem,w64,ratDV];try exact rfl));first | with_reducible refine condOf_t ?_ | with_reducible refine condOf_f ?_) | (refine awp_region' tyT_ok ?_;intro K hK) | (refine awp_drawA ?_;intro K hK) | (with_reducible refine hK _ ?_;clear hK K) | (refine stq ?_;simp (disch:=(first | omega | (simp;omega))) only [go_sem,w64,ratDV]) | refine and_side ?_ | fail)
    (refine endA (r:=.tup [.d (.agg [.int 0,.int 0]),.d (.bool false)]) ?_)
    exact ⟨by rw [hT];rfl,rfl⟩
  | true =>
    rw [hb,if_pos rfl] at hT
    obtain ⟨o1,o2,o3,o4,o5⟩:=ops_bd (an:=x.num) (ad:=x.den) (bn:=y.num) (bd:=y.den) hb
    have w1:IntKind.i64.wrap (x.num*y.den)=x.num*y.den:=w64 (by omega)
    have w2:IntKind.i64.wrap (y.num*x.den)=y.num*x.den:=w64 (by omega)
    have w3:IntKind.i64.wrap (x.num*y.den+y.num*x.den)=x.num*y.den+y.num*x.den:=w64 (by omega)
    have w4:IntKind.i64.wrap (x.den*y.den)=x.den*y.den:=w64 (by omega)
    repeat' (first | refine awp_seq ?_ | refine stp ?_ | refine blk_o (by decide) ?_ | (apply awp_condB;(focus (simp (disch:=(first | omega | (simp;omega))) only [go_sem,w64,ratDV,w1,w2,w3,w4];try exact rfl));first | with_reducible refine condOf_t ?_ | with_reducible refine condOf_f ?_) | (refine awp_region' tyT_ok ?_;intro K hK) | (refine awp_drawA ?_;intro K hK) | (with_reducible refine hK _ ?_;clear hK K) | (refine stq ?_;simp (disch:=(first | omega | (simp;omega))) only [go_sem,w64,ratDV,w1,w2,w3,w4]) | refine and_side ?_ | fail)
    (first | refine callA (implNewA (x.num*y.den+y.num*x.den) (x.den*y.den)) ?_ | refine callD (implNewA (x.num*y.den+y.num*x.den) (x.den*y.den)) ?_ | refine callE (implNewA (x.num*y.den+y.num*x.den) (x.den*y.den)) ?_ | refine callF (implNewA (x.num*y.den+y.num*x.den) (x.den*y.den)) ?_ ?_)
    rw [← hT]
    repeat' (first | refine awp_seq ?_ | refine stp ?_ | refine blk_o (by decide) ?_ | (apply awp_condB;(focus (simp (disch:=(first | omega | (simp;omega))) only [go_sem,w64,tupQ,ratDV];try exact rfl));first | with_reducible refine condOf_t ?_ | with_reducible refine condOf_f ?_) | (refine awp_region' tyT_ok ?_;intro K hK) | (refine awp_drawA ?_;intro K hK) | (with_reducible refine hK _ ?_;clear hK K) | (refine stq ?_;simp (disch:=(first | omega | (simp;omega))) only [go_sem,w64,tupQ,ratDV]) | refine and_side ?_ | fail)
    (refine endA (r:=.tup [.d (.agg [.int (rq (addQ x y)).num,.int (rq (addQ x y)).den]),.d (.bool (addQ x y).2.2)]) ?_)
    exact ⟨rfl,rfl⟩
theorem implMulA:AFn 64 [.d (ratDV x),.d (ratDV y)] [] (fun r os=>r=tupQ (mulQ x y)∧os=[]):=by
  have hT:mulQ x y=if (vR x && vR y)=true then newRat (x.num*y.num) (x.den*y.den) else (0,0,false):=rfl
  refine afn_of (rv:=[.cell 4 39,.tmp 5]) tyT_ok Try.func64 rfl (by decide +kernel) Try.ntmps64 rfl (by simp) ?_
  repeat' (first | refine awp_seq ?_ | refine stp ?_ | refine blk_o (by decide) ?_ | (apply awp_condB;(focus (simp (disch:=(first | omega | (simp;omega))) only [go_sem,w64,ratDV];try exact rfl));first | with_reducible refine condOf_t ?_ | with_reducible refine condOf_f ?_) | (refine awp_region' tyT_ok ?_;intro K hK) | (refine awp_drawA ?_;intro K hK) | (with_reducible refine hK _ ?_;clear hK K) | (refine stq ?_;simp (disch:=(first | omega | (simp;omega))) only [go_sem,w64,ratDV]) | refine and_side ?_ | fail)
  (first | refine callA (implBothA x y) ?_ | refine callD (implBothA x y) ?_ | refine callE (implBothA x y) ?_ | refine callF (implBothA x y) ?_ ?_)
  cases hb:(vR x && vR y) with
  | false =>
    rw [hb,if_neg (by decide)] at hT
    repeat' (first | refine awp_seq ?_ | refine stp ?_ | refine blk_o (by decide) ?_ | (apply awp_condB;(focus (simp (disch:=(first | omega | (simp;omega))) only [go_sem,w64,ratDV];try exact rfl));first | with_reducible refine condOf_t ?_ | with_reducible refine condOf_f ?_) | (refine awp_region' tyT_ok ?_;intro K hK) | (refine awp_drawA ?_;intro K hK) | (with_reducible refine hK _ ?_;clear hK K) | (refine stq ?_;simp (disch:=(first | omega | (simp;omega))) only [go_sem,w64,ratDV]) | refine and_side ?_ | fail)
    (refine endA (r:=.tup [.d (.agg [.int 0,.int 0]),.d (.bool false)]) ?_)
    exact ⟨by rw [hT];rfl,rfl⟩
  | true =>
    rw [hb,if_pos rfl] at hT
    obtain ⟨o1,o2,o3,o4,o5⟩:=ops_bd (an:=x.num) (ad:=x.den) (bn:=y.num) (bd:=y.den) hb
    have w1:IntKind.i64.wrap (x.num*y.num)=x.num*y.num:=w64 (by omega)
    have w4:IntKind.i64.wrap (x.den*y.den)=x.den*y.den:=w64 (by omega)
    repeat' (first | refine awp_seq ?_ | refine stp ?_ | refine blk_o (by decide) ?_ | (apply awp_condB;(focus (simp (disch:=(first | omega | (simp;omega))) only [go_sem,w64,ratDV,w1,w4];try exact rfl));first | with_reducible refine condOf_t ?_ | with_reducible refine condOf_f ?_) | (refine awp_region' tyT_ok ?_;intro K hK) | (refine awp_drawA ?_;intro K hK) | (with_reducible refine hK _ ?_;clear hK K) | (refine stq ?_;simp (disch:=(first | omega | (simp;omega))) only [go_sem,w64,ratDV,w1,w4]) | refine and_side ?_ | fail)
    (first | refine callA (implNewA (x.num*y.num) (x.den*y.den)) ?_ | refine callD (implNewA (x.num*y.num) (x.den*y.den)) ?_ | refine callE (implNewA (x.num*y.num) (x.den*y.den)) ?_ | refine callF (implNewA (x.num*y.num) (x.den*y.den)) ?_ ?_)
    rw [← hT]
    repeat' (first | refine awp_seq ?_ | refine stp ?_ | refine blk_o (by decide) ?_ | (apply awp_condB;(focus (simp (disch:=(first | omega | (simp;omega))) only [go_sem,w64,tupQ,ratDV];try exact rfl));first | with_reducible refine condOf_t ?_ | with_reducible refine condOf_f ?_) | (refine awp_region' tyT_ok ?_;intro K hK) | (refine awp_drawA ?_;intro K hK) | (with_reducible refine hK _ ?_;clear hK K) | (refine stq ?_;simp (disch:=(first | omega | (simp;omega))) only [go_sem,w64,tupQ,ratDV]) | refine and_side ?_ | fail)
    (refine endA (r:=.tup [.d (.agg [.int (rq (mulQ x y)).num,.int (rq (mulQ x y)).den]),.d (.bool (mulQ x y).2.2)]) ?_)
    exact ⟨rfl,rfl⟩
theorem specAddA:AFn 63 [.d (ratDV x),.d (ratDV y)] [] (fun r os=>r=tupQ (addQ x y)∧os=[]):=by
  have hT:addQ x y=if (vR x && vR y)=true then newRat (x.num*y.den+y.num*x.den) (x.den*y.den) else (0,0,false):=rfl
  refine afn_of (rv:=[.cell 4 39,.tmp 5]) tyT_ok Try.func63 rfl (by decide +kernel) Try.ntmps63 rfl (by simp) ?_
  repeat' (first | refine awp_seq ?_ | refine stp ?_ | refine blk_o (by decide) ?_ | (apply awp_condB;(focus (simp (disch:=(first | omega | (simp;omega))) only [go_sem,w64,ratDV];try exact rfl));first | with_reducible refine condOf_t ?_ | with_reducible refine condOf_f ?_) | (refine awp_region' tyT_ok ?_;intro K hK) | (refine awp_drawA ?_;intro K hK) | (with_reducible refine hK _ ?_;clear hK K) | (refine stq ?_;simp (disch:=(first | omega | (simp;omega))) only [go_sem,w64,ratDV]) | refine and_side ?_ | fail)
  (first | refine callA (specValidRA x) ?_ | refine callD (specValidRA x) ?_ | refine callE (specValidRA x) ?_ | refine callF (specValidRA x) ?_ ?_)
  cases hx:vR x with
  | false =>
    rw [hx,if_neg (by simp)] at hT
    repeat' (first | refine awp_seq ?_ | refine stp ?_ | refine blk_o (by decide) ?_ | (apply awp_condB;(focus (simp (disch:=(first | omega | (simp;omega))) only [go_sem,w64,ratDV];try exact rfl));first | with_reducible refine condOf_t ?_ | with_reducible refine condOf_f ?_) | (refine awp_region' tyT_ok ?_;intro K hK) | (refine awp_drawA ?_;intro K hK) | (with_reducible refine hK _ ?_;clear hK K) | (refine stq ?_;simp (disch:=(first | omega | (simp;omega))) only [go_sem,w64,ratDV]) | refine and_side ?_ | fail)
    (refine endA (r:=.tup [.d (.agg [.int 0,.int 0]),.d (.bool false)]) ?_)
    exact ⟨by rw [hT];rfl,rfl⟩
  | true =>
    repeat' (first | refine awp_seq ?_ | refine stp ?_ | refine blk_o (by decide) ?_ | (apply awp_condB;(focus (simp (disch:=(first | omega | (simp;omega))) only [go_sem,w64,ratDV];try exact rfl));first | with_reducible refine condOf_t ?_ | with_reducible refine condOf_f ?_) | (refine awp_region' tyT_ok ?_;intro K hK) | (refine awp_drawA ?_;intro K hK) | (with_reducible refine hK _ ?_;clear hK K) | (refine stq ?_;simp (disch:=(first | omega | (simp;omega))) only [go_sem,w64,ratDV]) | refine and_side ?_ | fail)
    (first | refine callA (specValidRA y) ?_ | refine callD (specValidRA y) ?_ | refine callE (specValidRA y) ?_ | refine callF (specValidRA y) ?_ ?_)
    cases hy:vR y with
    | false =>
      rw [hx,hy,if_neg (by simp)] at hT
      repeat' (first | refine awp_seq ?_ | refine stp ?_ | refine blk_o (by decide) ?_ | (apply awp_condB;(focus (simp (disch:=(first | omega | (simp;omega))) only [go_sem,w64,ratDV];try exact rfl));first | with_reducible refine condOf_t ?_ | with_reducible refine condOf_f ?_) | (refine awp_region' tyT_ok ?_;intro K hK) | (refine awp_drawA ?_;intro K hK) | (with_reducible refine hK _ ?_;clear hK K) | (refine stq ?_;simp (disch:=(first | omega | (simp;omega))) only [go_sem,w64,ratDV]) | refine and_side ?_ | fail)
      (refine endA (r:=.tup [.d (.agg [.int 0,.int 0]),.d (.bool false)]) ?_)
      exact ⟨by rw [hT];rfl,rfl⟩
    | true =>
      have hb:bothOK x.num x.den y.num y.den=true:=by show (vR x && vR y)=true;rw [hx,hy];rfl
      rw [hx,hy,Bool.true_and,if_pos rfl] at hT
      obtain ⟨o1,o2,o3,o4,o5⟩:=ops_bd (an:=x.num) (ad:=x.den) (bn:=y.num) (bd:=y.den) hb
      have w1:IntKind.i64.wrap (x.num*y.den)=x.num*y.den:=w64 (by omega)
      have w2:IntKind.i64.wrap (y.num*x.den)=y.num*x.den:=w64 (by omega)
      have w3:IntKind.i64.wrap (x.num*y.den+y.num*x.den)=x.num*y.den+y.num*x.den:=w64 (by omega)
      have w4:IntKind.i64.wrap (x.den*y.den)=x.den*y.den:=w64 (by omega)
      repeat' (first | refine awp_seq ?_ | refine stp ?_ | refine blk_o (by decide) ?_ | (apply awp_condB;(focus (simp (disch:=(first | omega | (simp;omega))) only [go_sem,w64,ratDV,w1,w2,w3,w4];try exact rfl));first | with_reducible refine condOf_t ?_ | with_reducible refine condOf_f ?_) | (refine awp_region' tyT_ok ?_;intro K hK) | (refine awp_drawA ?_;intro K hK) | (with_reducible refine hK _ ?_;clear hK K) | (refine stq ?_;simp (disch:=(first | omega | (simp;omega))) only [go_sem,w64,ratDV,w1,w2,w3,w4]) | refine and_side ?_ | fail)
      (first | refine callA (specNewA (x.num*y.den+y.num*x.den) (x.den*y.den)) ?_ | refine callD (specNewA (x.num*y.den+y.num*x.den) (x.den*y.den)) ?_ | refine callE (specNewA (x.num*y.den+y.num*x.den) (x.den*y.den)) ?_ | refine callF (specNewA (x.num*y.den+y.num*x.den) (x.den*y.den)) ?_ ?_)
      rw [← hT]
      repeat' (first | refine awp_seq ?_ | refine stp ?_ | refine blk_o (by decide) ?_ | (apply awp_condB;(focus (simp (disch:=(first | omega | (simp;omega))) only [go_sem,w64,tupQ,ratDV];try exact rfl));first | with_reducible refine condOf_t ?_ | with_reducible refine condOf_f ?_) | (refine awp_region' tyT_ok ?_;intro K hK) | (refine awp_drawA ?_;intro K hK) | (with_reducible refine hK _ ?_;clear hK K) | (refine stq ?_;simp (disch:=(first | omega | (simp;omega))) only [go_sem,w64,tupQ,ratDV]) | refine and_side ?_ | fail)
      (refine endA (r:=.tup [.d (.agg [.int (rq (addQ x y)).num,.int (rq (addQ x y)).den]),.d (.bool (addQ x y).2.2)]) ?_)
      exact ⟨rfl,rfl⟩
theorem specMulA:AFn 62 [.d (ratDV x),.d (ratDV y)] [] (fun r os=>r=tupQ (mulQ x y)∧os=[]):=by
  have hT:mulQ x y=if (vR x && vR y)=true then newRat (x.num*y.num) (x.den*y.den) else (0,0,false):=rfl
  refine afn_of (rv:=[.cell 4 39,.tmp 5]) tyT_ok Try.func62 rfl (by decide +kernel) Try.ntmps62 rfl (by simp) ?_
  repeat' (first | refine awp_seq ?_ | refine stp ?_ | refine blk_o (by decide) ?_ | (apply awp_condB;(focus (simp (disch:=(first | omega | (simp;omega))) only [go_sem,w64,ratDV];try exact rfl));first | with_reducible refine condOf_t ?_ | with_reducible refine condOf_f ?_) | (refine awp_region' tyT_ok ?_;intro K hK) | (refine awp_drawA ?_;intro K hK) | (with_reducible refine hK _ ?_;clear hK K) | (refine stq ?_;simp (disch:=(first | omega | (simp;omega))) only [go_sem,w64,ratDV]) | refine and_side ?_ | fail)
  (first | refine callA (specValidRA x) ?_ | refine callD (specValidRA x) ?_ | refine callE (specValidRA x) ?_ | refine callF (specValidRA x) ?_ ?_)
  cases hx:vR x with
  | false =>
    rw [hx,if_neg (by simp)] at hT
    repeat' (first | refine awp_seq ?_ | refine stp ?_ | refine blk_o (by decide) ?_ | (apply awp_condB;(focus (simp (disch:=(first | omega | (simp;omega))) only [go_sem,w64,ratDV];try exact rfl));first | with_reducible refine condOf_t ?_ | with_reducible refine condOf_f ?_) | (refine awp_region' tyT_ok ?_;intro K hK) | (refine awp_drawA ?_;intro K hK) | (with_reducible refine hK _ ?_;clear hK K) | (refine stq ?_;simp (disch:=(first | omega | (simp;omega))) only [go_sem,w64,ratDV]) | refine and_side ?_ | fail)
    (refine endA (r:=.tup [.d (.agg [.int 0,.int 0]),.d (.bool false)]) ?_)
    exact ⟨by rw [hT];rfl,rfl⟩
  | true =>
    repeat' (first | refine awp_seq ?_ | refine stp ?_ | refine blk_o (by decide) ?_ | (apply awp_condB;(focus (simp (disch:=(first | omega | (simp;omega))) only [go_sem,w64,ratDV];try exact rfl));first | with_reducible refine condOf_t ?_ | with_reducible refine condOf_f ?_) | (refine awp_region' tyT_ok ?_;intro K hK) | (refine awp_drawA ?_;intro K hK) | (with_reducible refine hK _ ?_;clear hK K) | (refine stq ?_;simp (disch:=(first | omega | (simp;omega))) only [go_sem,w64,ratDV]) | refine and_side ?_ | fail)
    (first | refine callA (specValidRA y) ?_ | refine callD (specValidRA y) ?_ | refine callE (specValidRA y) ?_ | refine callF (specValidRA y) ?_ ?_)
    cases hy:vR y with
    | false =>
      rw [hx,hy,if_neg (by simp)] at hT
      repeat' (first | refine awp_seq ?_ | refine stp ?_ | refine blk_o (by decide) ?_ | (apply awp_condB;(focus (simp (disch:=(first | omega | (simp;omega))) only [go_sem,w64,ratDV];try exact rfl));first | with_reducible refine condOf_t ?_ | with_reducible refine condOf_f ?_) | (refine awp_region' tyT_ok ?_;intro K hK) | (refine awp_drawA ?_;intro K hK) | (with_reducible refine hK _ ?_;clear hK K) | (refine stq ?_;simp (disch:=(first | omega | (simp;omega))) only [go_sem,w64,ratDV]) | refine and_side ?_ | fail)
      (refine endA (r:=.tup [.d (.agg [.int 0,.int 0]),.d (.bool false)]) ?_)
      exact ⟨by rw [hT];rfl,rfl⟩
    | true =>
      have hb:bothOK x.num x.den y.num y.den=true:=by show (vR x && vR y)=true;rw [hx,hy];rfl
      rw [hx,hy,Bool.true_and,if_pos rfl] at hT
      obtain ⟨o1,o2,o3,o4,o5⟩:=ops_bd (an:=x.num) (ad:=x.den) (bn:=y.num) (bd:=y.den) hb
      have w1:IntKind.i64.wrap (x.num*y.num)=x.num*y.num:=w64 (by omega)
      have w2:IntKind.i64.wrap (x.den*y.den)=x.den*y.den:=w64 (by omega)
      repeat' (first | refine awp_seq ?_ | refine stp ?_ | refine blk_o (by decide) ?_ | (apply awp_condB;(focus (simp (disch:=(first | omega | (simp;omega))) only [go_sem,w64,ratDV,w1,w2];try exact rfl));first | with_reducible refine condOf_t ?_ | with_reducible refine condOf_f ?_) | (refine awp_region' tyT_ok ?_;intro K hK) | (refine awp_drawA ?_;intro K hK) | (with_reducible refine hK _ ?_;clear hK K) | (refine stq ?_;simp (disch:=(first | omega | (simp;omega))) only [go_sem,w64,ratDV,w1,w2]) | refine and_side ?_ | fail)
      (first | refine callA (specNewA (x.num*y.num) (x.den*y.den)) ?_ | refine callD (specNewA (x.num*y.num) (x.den*y.den)) ?_ | refine callE (specNewA (x.num*y.num) (x.den*y.den)) ?_ | refine callF (specNewA (x.num*y.num) (x.den*y.den)) ?_ ?_)
      rw [← hT]
      repeat' (first | refine awp_seq ?_ | refine stp ?_ | refine blk_o (by decide) ?_ | (apply awp_condB;(focus (simp (disch:=(first | omega | (simp;omega))) only [go_sem,w64,tupQ,ratDV];try exact rfl));first | with_reducible refine condOf_t ?_ | with_reducible refine condOf_f ?_) | (refine awp_region' tyT_ok ?_;intro K hK) | (refine awp_drawA ?_;intro K hK) | (with_reducible refine hK _ ?_;clear hK K) | (refine stq ?_;simp (disch:=(first | omega | (simp;omega))) only [go_sem,w64,tupQ,ratDV]) | refine and_side ?_ | fail)
      (refine endA (r:=.tup [.d (.agg [.int (rq (mulQ x y)).num,.int (rq (mulQ x y)).den]),.d (.bool (mulQ x y).2.2)]) ?_)
      exact ⟨rfl,rfl⟩
theorem specDivA:AFn 56 [.d (ratDV x),.d (ratDV y)] [] (fun r os=>r=tupQ (divQ x y)∧os=[]):=by
  have hT:divQ x y=if (vR x && vR y)=true then newRat (x.num*y.den) (x.den*y.num) else (0,0,false):=rfl
  refine afn_of (rv:=[.cell 4 39,.tmp 5]) tyT_ok Try.func56 rfl (by decide +kernel) Try.ntmps56 rfl (by simp) ?_
  repeat' (first | refine awp_seq ?_ | refine stp ?_ | refine blk_o (by decide) ?_ | (apply awp_condB;(focus (simp (disch:=(first | omega | (simp;omega))) only [go_sem,w64,ratDV];try exact rfl));first | with_reducible refine condOf_t ?_ | with_reducible refine condOf_f ?_) | (refine awp_region' tyT_ok ?_;intro K hK) | (refine awp_drawA ?_;intro K hK) | (with_reducible refine hK _ ?_;clear hK K) | (refine stq ?_;simp (disch:=(first | omega | (simp;omega))) only [go_sem,w64,ratDV]) | refine and_side ?_ | fail)
  (first | refine callA (specValidRA x) ?_ | refine callD (specValidRA x) ?_ | refine callE (specValidRA x) ?_ | refine callF (specValidRA x) ?_ ?_)
  cases hx:vR x with
  | false =>
    rw [hx,if_neg (by simp)] at hT
    repeat' (first | refine awp_seq ?_ | refine stp ?_ | refine blk_o (by decide) ?_ | (apply awp_condB;(focus (simp (disch:=(first | omega | (simp;omega))) only [go_sem,w64,ratDV];try exact rfl));first | with_reducible refine condOf_t ?_ | with_reducible refine condOf_f ?_) | (refine awp_region' tyT_ok ?_;intro K hK) | (refine awp_drawA ?_;intro K hK) | (with_reducible refine hK _ ?_;clear hK K) | (refine stq ?_;simp (disch:=(first | omega | (simp;omega))) only [go_sem,w64,ratDV]) | refine and_side ?_ | fail)
    (refine endA (r:=.tup [.d (.agg [.int 0,.int 0]),.d (.bool false)]) ?_)
    exact ⟨by rw [hT];rfl,rfl⟩
  | true =>
    repeat' (first | refine awp_seq ?_ | refine stp ?_ | refine blk_o (by decide) ?_ | (apply awp_condB;(focus (simp (disch:=(first | omega | (simp;omega))) only [go_sem,w64,ratDV];try exact rfl));first | with_reducible refine condOf_t ?_ | with_reducible refine condOf_f ?_) | (refine awp_region' tyT_ok ?_;intro K hK) | (refine awp_drawA ?_;intro K hK) | (with_reducible refine hK _ ?_;clear hK K) | (refine stq ?_;simp (disch:=(first | omega | (simp;omega))) only [go_sem,w64,ratDV]) | refine and_side ?_ | fail)
    (first | refine callA (specValidRA y) ?_ | refine callD (specValidRA y) ?_ | refine callE (specValidRA y) ?_ | refine callF (specValidRA y) ?_ ?_)
    cases hy:vR y with
    | false =>
      rw [hx,hy,if_neg (by simp)] at hT
      repeat' (first | refine awp_seq ?_ | refine stp ?_ | refine blk_o (by decide) ?_ | (apply awp_condB;(focus (simp (disch:=(first | omega | (simp;omega))) only [go_sem,w64,ratDV];try exact rfl));first | with_reducible refine condOf_t ?_ | with_reducible refine condOf_f ?_) | (refine awp_region' tyT_ok ?_;intro K hK) | (refine awp_drawA ?_;intro K hK) | (with_reducible refine hK _ ?_;clear hK K) | (refine stq ?_;simp (disch:=(first | omega | (simp;omega))) only [go_sem,w64,ratDV]) | refine and_side ?_ | fail)
      (refine endA (r:=.tup [.d (.agg [.int 0,.int 0]),.d (.bool false)]) ?_)
      exact ⟨by rw [hT];rfl,rfl⟩
    | true =>
      have hb:bothOK x.num x.den y.num y.den=true:=by show (vR x && vR y)=true;rw [hx,hy];rfl
      rw [hx,hy,Bool.true_and,if_pos rfl] at hT
      obtain ⟨o1,o2,o3,o4,o5⟩:=ops_bd (an:=x.num) (ad:=x.den) (bn:=y.num) (bd:=y.den) hb
      have w1:IntKind.i64.wrap (x.num*y.den)=x.num*y.den:=w64 (by omega)
      have w2:IntKind.i64.wrap (x.den*y.num)=x.den*y.num:=w64 (by omega)
      repeat' (first | refine awp_seq ?_ | refine stp ?_ | refine blk_o (by decide) ?_ | (apply awp_condB;(focus (simp (disch:=(first | omega | (simp;omega))) only [go_sem,w64,ratDV,w1,w2];try exact rfl));first | with_reducible refine condOf_t ?_ | with_reducible refine condOf_f ?_) | (refine awp_region' tyT_ok ?_;intro K hK) | (refine awp_drawA ?_;intro K hK) | (with_reducible refine hK _ ?_;clear hK K) | (refine stq ?_;simp (disch:=(first | omega | (simp;omega))) only [go_sem,w64,ratDV,w1,w2]) | refine and_side ?_ | fail)
      (first | refine callA (specNewA (x.num*y.den) (x.den*y.num)) ?_ | refine callD (specNewA (x.num*y.den) (x.den*y.num)) ?_ | refine callE (specNewA (x.num*y.den) (x.den*y.num)) ?_ | refine callF (specNewA (x.num*y.den) (x.den*y.num)) ?_ ?_)
      rw [← hT]
      repeat' (first | refine awp_seq ?_ | refine stp ?_ | refine blk_o (by decide) ?_ | (apply awp_condB;(focus (simp (disch:=(first | omega | (simp;omega))) only [go_sem,w64,tupQ,ratDV];try exact rfl));first | with_reducible refine condOf_t ?_ | with_reducible refine condOf_f ?_) | (refine awp_region' tyT_ok ?_;intro K hK) | (refine awp_drawA ?_;intro K hK) | (with_reducible refine hK _ ?_;clear hK K) | (refine stq ?_;simp (disch:=(first | omega | (simp;omega))) only [go_sem,w64,tupQ,ratDV]) | refine and_side ?_ | fail)
      (refine endA (r:=.tup [.d (.agg [.int (rq (divQ x y)).num,.int (rq (divQ x y)).den]),.d (.bool (divQ x y).2.2)]) ?_)
      exact ⟨rfl,rfl⟩
theorem implDivA:AFn 60 [.d (ratDV x),.d (ratDV y)] [] (fun r os=>r=tupQ (divQ x y)∧os=[]):=by
  have hT:divQ x y=if (vR x && vR y)=true then newRat (x.num*y.den) (x.den*y.num) else (0,0,false):=rfl
  refine afn_of (rv:=[.cell 4 39,.tmp 5]) tyT_ok Try.func60 rfl (by decide +kernel) Try.ntmps60 rfl (by simp) ?_
  repeat' (first | refine awp_seq ?_ | refine stp ?_ | refine blk_o (by decide) ?_ | (apply awp_condB;(focus (simp (disch:=(first | omega | (simp;omega))) only [go_sem,w64,ratDV];try exact rfl));first | with_reducible refine condOf_t ?_ | with_reducible refine condOf_f ?_) | (refine awp_region' tyT_ok ?_;intro K hK) | (refine awp_drawA ?_;intro K hK) | (with_reducible refine hK _ ?_;clear hK K) | (refine stq ?_;simp (disch:=(first | omega | (simp;omega))) only [go_sem,w64,ratDV]) | refine and_side ?_ | fail)
  (first | refine callA (implBothA x y) ?_ | refine callD (implBothA x y) ?_ | refine callE (implBothA x y) ?_ | refine callF (implBothA x y) ?_ ?_)
  cases hb:(vR x && vR y) with
  | false =>
    rw [hb,if_neg (by decide)] at hT
    repeat' (first | refine awp_seq ?_ | refine stp ?_ | refine blk_o (by decide) ?_ | (apply awp_condB;(focus (simp (disch:=(first | omega | (simp;omega))) only [go_sem,w64,ratDV];try exact rfl));first | with_reducible refine condOf_t ?_ | with_reducible refine condOf_f ?_) | (refine awp_region' tyT_ok ?_;intro K hK) | (refine awp_drawA ?_;intro K hK) | (with_reducible refine hK _ ?_;clear hK K) | (refine stq ?_;simp (disch:=(first | omega | (simp;omega))) only [go_sem,w64,ratDV]) | refine and_side ?_ | fail)
    (refine endA (r:=.tup [.d (.agg [.int 0,.int 0]),.d (.bool false)]) ?_)
    exact ⟨by rw [hT];rfl,rfl⟩
  | true =>
    rw [hb,if_pos rfl] at hT
    by_cases hz:y.num=0
    · rw [newRat_no (.inl (by rw [hz,Int.mul_zero]))] at hT
      have z1:decide (y.num=0)=true:=decide_eq_true hz
      repeat' (first | refine awp_seq ?_ | refine stp ?_ | refine blk_o (by decide) ?_ | (apply awp_condB;(focus (simp (disch:=(first | omega | (simp;omega))) only [go_sem,w64,ratDV,z1];try exact rfl));first | with_reducible refine condOf_t ?_ | with_reducible refine condOf_f ?_) | (refine awp_region' tyT_ok ?_;intro K hK) | (refine awp_drawA ?_;intro K hK) | (with_reducible refine hK _ ?_;clear hK K) | (refine stq ?_;simp (disch:=(first | omega | (simp;omega))) only [go_sem,w64,ratDV,z1]) | refine and_side ?_ | fail)
      (refine endA (r:=.tup [.d (.agg [.int 0,.int 0]),.d (.bool false)]) ?_)
      exact ⟨by rw [hT];rfl,rfl⟩
    have z1:decide (y.num=0)=false:=decide_eq_false hz
    obtain ⟨o1,o2,o3,o4,o5⟩:=ops_bd (an:=x.num) (ad:=x.den) (bn:=y.num) (bd:=y.den) hb
    have w1:IntKind.i64.wrap (x.num*y.den)=x.num*y.den:=w64 (by omega)
    have w2:IntKind.i64.wrap (x.den*y.num)=x.den*y.num:=w64 (by omega)
    repeat' (first | refine awp_seq ?_ | refine stp ?_ | refine blk_o (by decide) ?_ | (apply awp_condB;(focus (simp (disch:=(first | omega | (simp;omega))) only [go_sem,w64,ratDV,z1,w1,w2];try exact rfl));first | with_reducible refine condOf_t ?_ | with_reducible refine condOf_f ?_) | (refine awp_region' tyT_ok ?_;intro K hK) | (refine awp_drawA ?_;intro K hK) | (with_reducible refine hK _ ?_;clear hK K) | (refine stq ?_;simp (disch:=(first | omega | (simp;omega))) only [go_sem,w64,ratDV,z1,w1,w2]) | refine and_side ?_ | fail)
    (first | refine callA (implNewA (x.num*y.den) (x.den*y.num)) ?_ | refine callD (implNewA (x.num*y.den) (x.den*y.num)) ?_ | refine callE (implNewA (x.num*y.den) (x.den*y.num)) ?_ | refine callF (implNewA (x.num*y.den) (x.den*y.num)) ?_ ?_)
    rw [← hT]
    repeat' (first | refine awp_seq ?_ | refine stp ?_ | refine blk_o (by decide) ?_ | (apply awp_condB;(focus (simp (disch:=(first | omega | (simp;omega))) only [go_sem,w64,tupQ,ratDV];try exact rfl));first | with_reducible refine condOf_t ?_ | with_reducible refine condOf_f ?_) | (refine awp_region' tyT_ok ?_;intro K hK) | (refine awp_drawA ?_;intro K hK) | (with_reducible refine hK _ ?_;clear hK K) | (refine stq ?_;simp (disch:=(first | omega | (simp;omega))) only [go_sem,w64,tupQ,ratDV]) | refine and_side ?_ | fail)
    (refine endA (r:=.tup [.d (.agg [.int (rq (divQ x y)).num,.int (rq (divQ x y)).den]),.d (.bool (divQ x y).2.2)]) ?_)
    exact ⟨rfl,rfl⟩
end
theorem cmpQ_i64 (x y:RatD):I64 (cmpQ x y):=by
  unfold cmpQ cmpRat cmpI I64
  repeat' split
  all_goals omega
theorem implCmpA (x y:RatD):AFn 53 [.d (ratDV x),.d (ratDV y)] [] (fun r os=>r=.d (.int (cmpQ x y))∧os=[]):=by
  refine leaf_afn (fnOK (by kernel_rfl)) (fun _ _=>cvInt.2 ⟨rfl,cmpQ_i64 x y⟩) ?_
  rintro w G _ ⟨v,_,rfl,h1,u,_,rfl,h2,rfl⟩ hC
  obtain ⟨rfl,a1,a2⟩:=cv_ratS h1
  obtain ⟨rfl,b1,b2⟩:=cv_ratS h2
  exact implCompareRationals _ _ _ _ w a1 a2 b1 b2
theorem specCmpA (x y:RatD):AFn 51 [.d (ratDV x),.d (ratDV y)] [] (fun r os=>r=.d (.int (cmpQ x y))∧os=[]):=by
  refine leaf_afn (fnOK (by kernel_rfl)) (fun _ _=>cvInt.2 ⟨rfl,cmpQ_i64 x y⟩) ?_
  rintro w G _ ⟨v,_,rfl,h1,u,_,rfl,h2,rfl⟩ hC
  obtain ⟨rfl,a1,a2⟩:=cv_ratS h1
  obtain ⟨rfl,b1,b2⟩:=cv_ratS h2
  exact specCompareRationals _ _ _ _ w a1 a2 b1 b2
theorem addR_no {a b c d:Int} (h:ratOK c d=false):addR a b c d=(0,0,false):=by
  unfold addR bothOK
  rw [h];simp
theorem subQ_no {x y:RatD} (h:vR y=false):subQ x y=(0,0,false):=by
  unfold subQ subR
  exact addR_no (by rw [ratOK_neg];exact h)
theorem afn_learn {f:FuncId} {args:List AV} {os0:List (List AV)} {R:AV→List (List AV)→Prop} {φ:Prop} (hf:FnOK f) (h:∀ G w vs,CVs G w args vs→φ) (k:φ→AFn f args os0 R):AFn f args os0 R:=⟨hf,fun w G vs h1=>(k (h _ _ _ h1)).2 w G vs h1⟩
theorem subQ_neg (x y:RatD):addQ x ⟨0 - y.num,y.den⟩=subQ x y:=by
  unfold addQ subQ subR
  rw [Int.zero_sub]
theorem implSubA (x y:RatD):AFn 73 [.d (ratDV x),.d (ratDV y)] [] (fun r os=>r=tupQ (subQ x y)∧os=[]):=by
  refine afn_learn (φ:=I64 y.num) (fnOK (by kernel_rfl)) (fun G w vs h=>?_) (fun hI=>?_)
  · obtain ⟨v,_,rfl,h1,u,_,rfl,h2,rfl⟩:=h
    exact (cv_ratS h2).2.1
  refine afn_of (rv:=[.cell 4 39,.tmp 5]) tyT_ok Try.func73 rfl (by decide +kernel) Try.ntmps73 rfl (by simp) ?_
  have key:∃ z,IntKind.i64.wrap (0 - y.num)=z∧addQ x ⟨z,y.den⟩=subQ x y:=by
    by_cases hy:-1000000000≤y.num∧y.num≤1000000000
    · exact ⟨0 - y.num,w64 (by omega),subQ_neg x y⟩
    · refine ⟨_,rfl,?_⟩
      rw [subQ_no (ratOK_n hy)]
      refine addR_no (ratOK_n ?_)
      show ¬ (-1000000000≤IntKind.i64.wrap (0 - y.num)∧IntKind.i64.wrap (0 - y.num)≤1000000000)
      unfold I64 at hI
      by_cases hm:y.num = -9223372036854775808
      · rw [hm];decide
      · rw [w64 (by omega)];omega
  obtain ⟨z,hz1,hz2⟩:=key
  repeat' (first | refine awp_seq ?_ | refine stp ?_ | refine blk_o (by decide) ?_ | (apply awp_condB;(focus (simp (disch:=(first | omega | (simp;omega))) only [go_sem,w64,ratDV,hz1];try exact rfl));first | with_reducible refine condOf_t ?_ | with_reducible refine condOf_f ?_) | (refine awp_region' tyT_ok ?_;intro K hK) | (refine awp_drawA ?_;intro K hK) | (with_reducible refine hK _ ?_;clear hK K) | (refine stq ?_;simp (disch:=(first | omega | (simp;omega))) only [go_sem,w64,ratDV,hz1]) | refine and_side ?_ | fail)
  (first | refine callA (implAddA x ⟨z,y.den⟩) ?_ | refine callD (implAddA x ⟨z,y.den⟩) ?_ | refine callE (implAddA x ⟨z,y.den⟩) ?_ | refine callF (implAddA x ⟨z,y.den⟩) ?_ ?_)
  rw [hz2]
  repeat' (first | refine awp_seq ?_ | refine stp ?_ | refine blk_o (by decide) ?_ | (apply awp_condB;(focus (simp (disch:=(first | omega | (simp;omega))) only [go_sem,w64,ratDV,tupQ];try exact rfl));first | with_reducible refine condOf_t ?_ | with_reducible refine condOf_f ?_) | (refine awp_region' tyT_ok ?_;intro K hK) | (refine awp_drawA ?_;intro K hK) | (with_reducible refine hK _ ?_;clear hK K) | (refine stq ?_;simp (disch:=(first | omega | (simp;omega))) only [go_sem,w64,ratDV,tupQ]) | refine and_side ?_ | fail)
  (refine endA (r:=.tup [.d (.agg [.int (rq (subQ x y)).num,.int (rq (subQ x y)).den]),.d (.bool (subQ x y).2.2)]) ?_)
  exact ⟨rfl,rfl⟩
theorem specSubA (x y:RatD):AFn 69 [.d (ratDV x),.d (ratDV y)] [] (fun r os=>r=tupQ (subQ x y)∧os=[]):=by
  refine afn_of (rv:=[.cell 4 39,.tmp 5]) tyT_ok Try.func69 rfl (by decide +kernel) Try.ntmps69 rfl (by simp) ?_
  repeat' (first | refine awp_seq ?_ | refine stp ?_ | refine blk_o (by decide) ?_ | (apply awp_condB;(focus (simp (disch:=(first | omega | (simp;omega))) only [go_sem,w64,ratDV];try exact rfl));first | with_reducible refine condOf_t ?_ | with_reducible refine condOf_f ?_) | (refine awp_region' tyT_ok ?_;intro K hK) | (refine awp_drawA ?_;intro K hK) | (with_reducible refine hK _ ?_;clear hK K) | (refine stq ?_;simp (disch:=(first | omega | (simp;omega))) only [go_sem,w64,ratDV]) | refine and_side ?_ | fail)
  (first | refine callA (specValidRA y) ?_ | refine callD (specValidRA y) ?_ | refine callE (specValidRA y) ?_ | refine callF (specValidRA y) ?_ ?_)
  cases hy:vR y with
  | true =>
    have hb:=ratOK_b hy
    repeat' (first | refine awp_seq ?_ | refine stp ?_ | refine blk_o (by decide) ?_ | (apply awp_condB;(focus (simp (disch:=(first | omega | (simp;omega))) only [go_sem,w64,ratDV];try exact rfl));first | with_reducible refine condOf_t ?_ | with_reducible refine condOf_f ?_) | (refine awp_region' tyT_ok ?_;intro K hK) | (refine awp_drawA ?_;intro K hK) | (with_reducible refine hK _ ?_;clear hK K) | (refine stq ?_;simp (disch:=(first | omega | (simp;omega))) only [go_sem,w64,ratDV]) | refine and_side ?_ | fail)
    (first | refine callA (specAddA x ⟨0 - y.num,y.den⟩) ?_ | refine callD (specAddA x ⟨0 - y.num,y.den⟩) ?_ | refine callE (specAddA x ⟨0 - y.num,y.den⟩) ?_ | refine callF (specAddA x ⟨0 - y.num,y.den⟩) ?_ ?_)
    rw [subQ_neg]
    repeat' (first | refine awp_seq ?_ | refine stp ?_ | refine blk_o (by decide) ?_ | (apply awp_condB;(focus (simp (disch:=(first | omega | (simp;omega))) only [go_sem,w64,ratDV,tupQ];try exact rfl));first | with_reducible refine condOf_t ?_ | with_reducible refine condOf_f ?_) | (refine awp_region' tyT_ok ?_;intro K hK) | (refine awp_drawA ?_;intro K hK) | (with_reducible refine hK _ ?_;clear hK K) | (refine stq ?_;simp (disch:=(first | omega | (simp;omega))) only [go_sem,w64,ratDV,tupQ]) | refine and_side ?_ | fail)
    (refine endA (r:=.tup [.d (.agg [.int (rq (subQ x y)).num,.int (rq (subQ x y)).den]),.d (.bool (subQ x y).2.2)]) ?_)
    exact ⟨rfl,rfl⟩
  | false =>
    repeat' (first | refine awp_seq ?_ | refine stp ?_ | refine blk_o (by decide) ?_ | (apply awp_condB;(focus (simp (disch:=(first | omega | (simp;omega))) only [go_sem,w64,ratDV];try exact rfl));first | with_reducible refine condOf_t ?_ | with_reducible refine condOf_f ?_) | (refine awp_region' tyT_ok ?_;intro K hK) | (refine awp_drawA ?_;intro K hK) | (with_reducible refine hK _ ?_;clear hK K) | (refine stq ?_;simp (disch:=(first | omega | (simp;omega))) only [go_sem,w64,ratDV]) | refine and_side ?_ | fail)
    (refine endA (r:=.tup [.d (.agg [.int 0,.int 0]),.d (.bool false)]) ?_)
    exact ⟨by rw [subQ_no hy];rfl,rfl⟩
end Go.Proofs.Ytpbclpopoodklaa
