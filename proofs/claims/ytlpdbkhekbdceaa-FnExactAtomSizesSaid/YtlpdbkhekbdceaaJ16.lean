/- Lemmas for the proof of FnExactAtomSizes, part 16 of 19: no condition of their own. -/
import Derived.Test.YtlpdbkhekbdceaaJ8
import Derived.Test.YtlpdbkhekbdceaaJ13
import Derived.Test.YtlpdbkhekbdceaaJ15
import Derived.Test.YtlpdbkhekbdceaaJ12
namespace Go.Proofs.Ytlpdbkhekbdceaa
set_option linter.unusedSimpArgs false
set_option linter.unusedVariables false
attribute [local go_sem ↓] reduceIte
attribute [local go_sem] Nat.reduceEqDiff Nat.reduceLT Nat.reduceAdd Nat.reduceLeDiff Nat.reduceMul Nat.reduceBEq Nat.reduceSub reduceCtorEq Int.reduceLE Int.reduceNeg Int.reduceLT
open Go.RowKit
def isByt (y:DV):Prop:=∃ l:List Int,y=.sl 1 (l.map .byte)
def isNatD (y:DV):Prop:=∃ n:Int,0≤n∧y=.int n
def isIntP (y:DV):Prop:=∃ n:Int,y=.int n
def curL:List AV:=[.any isByt,.any isNatD,.any isIntP]
@[go_sem] theorem cur_scr (fb fo:Nat→Bool):scrubs fb fo curL=curL:=rfl
@[go_sem] theorem cur_scr' (fb fo:Nat→Bool):List.map (scrub fb fo) curL=curL:=rfl
@[go_sem] theorem cur_ren (ns:List Nat) (d:Nat):renAs ns d curL=curL:=rfl
@[go_sem] theorem cur_ent:entAs curL=curL:=rfl
@[go_sem] theorem cur_out (nl:List Nat) (g:Nat):outAs nl g curL=curL:=rfl
@[go_sem] theorem cur_frz (o k:Nat) (es:List DV):frzs o k es curL=curL:=rfl
end Go.Proofs.Ytlpdbkhekbdceaa
namespace Go.Proofs.Ytlpdbkhekbdceaa
set_option linter.unusedSimpArgs false
set_option linter.unusedVariables false
attribute [local go_sem ↓] reduceIte
attribute [local go_sem] Nat.reduceEqDiff Nat.reduceLT Nat.reduceAdd Nat.reduceLeDiff Nat.reduceMul Nat.reduceBEq Nat.reduceSub reduceCtorEq Int.reduceLE Int.reduceNeg Int.reduceLT
open Go.RowKit
def bs (l:List UInt8):ByteArray:=⟨l.toArray⟩
def vn (v:Int):List UInt8:=if 0≤v∧v≤4 then [([88,89,90,85,86]:List UInt8).getD v.toNat 0] else []
def varsF (l:List Int):List UInt8:=[40] ++ ((l.map vn).flatten ++ [41])
end Go.Proofs.Ytlpdbkhekbdceaa
namespace Go.Proofs.Ytlpdbkhekbdceaa
set_option linter.unusedSimpArgs false
set_option linter.unusedVariables false
attribute [local go_sem ↓] reduceIte
attribute [local go_sem] Nat.reduceEqDiff Nat.reduceLT Nat.reduceAdd Nat.reduceLeDiff Nat.reduceMul Nat.reduceBEq Nat.reduceSub reduceCtorEq Int.reduceLE Int.reduceNeg Int.reduceLT
open Go.RowKit
end Go.Proofs.Ytlpdbkhekbdceaa
namespace Go.Proofs.Ytlpdbkhekbdceaa
set_option linter.unusedSimpArgs false
set_option linter.unusedVariables false
attribute [local go_sem ↓] reduceIte
attribute [local go_sem] Nat.reduceEqDiff Nat.reduceLT Nat.reduceAdd Nat.reduceLeDiff Nat.reduceMul Nat.reduceBEq Nat.reduceSub reduceCtorEq Int.reduceLE Int.reduceNeg Int.reduceLT
open Go.RowKit
def atomW (x:AtomD):List UInt8:=x.nm.data.toList ++ varsF x.vs
def joinF:List AtomD→List UInt8
 | []=>[]
 | x :: l=>atomW x ++ (l.map fun y=>[44] ++ atomW y).flatten
noncomputable def fmtF (nv:Int) (xs:List AtomD) (us:List Int):List UInt8:=if qOK nv xs us=true then varsF us ++ ([61] ++ joinF xs) else []
end Go.Proofs.Ytlpdbkhekbdceaa
namespace Go.Proofs.Ytlpdbkhekbdceaa
set_option linter.unusedSimpArgs false
set_option linter.unusedVariables false
open Go.RowKit
end Go.Proofs.Ytlpdbkhekbdceaa
namespace Go.Proofs.Ytlpdbkhekbdceaa
set_option linter.unusedSimpArgs false
set_option linter.unusedVariables false
attribute [local go_sem ↓] reduceIte
attribute [local go_sem] Nat.reduceEqDiff Nat.reduceLT Nat.reduceAdd Nat.reduceLeDiff Nat.reduceMul Nat.reduceBEq Nat.reduceSub reduceCtorEq Int.reduceLE Int.reduceNeg Int.reduceLT
open Go.RowKit
end Go.Proofs.Ytlpdbkhekbdceaa
namespace Go.Proofs.Ytlpdbkhekbdceaa
set_option linter.unusedSimpArgs false
set_option linter.unusedVariables false
attribute [local go_sem ↓] reduceIte
attribute [local go_sem] Nat.reduceEqDiff Nat.reduceLT Nat.reduceAdd Nat.reduceLeDiff Nat.reduceMul Nat.reduceBEq Nat.reduceSub reduceCtorEq Int.reduceLE Int.reduceNeg Int.reduceLT
open Go.RowKit
noncomputable def adjTo (xs:List AtomD) (v x:Int):Nat→Bool
 | 0=>false
 | k+1=>adjTo xs v x k || (decide (x ≠ v) && (occ (ax xs k).vs v && occ (ax xs k).vs x))
end Go.Proofs.Ytlpdbkhekbdceaa
namespace Go.Proofs.Ytlpdbkhekbdceaa
set_option linter.unusedSimpArgs false
set_option linter.unusedVariables false
open Go.RowKit
end Go.Proofs.Ytlpdbkhekbdceaa
namespace Go.Proofs.Ytlpdbkhekbdceaa
set_option linter.unusedSimpArgs false
set_option linter.unusedVariables false
attribute [local go_sem ↓] reduceIte
attribute [local go_sem] Nat.reduceEqDiff Nat.reduceLT Nat.reduceAdd Nat.reduceLeDiff Nat.reduceMul Nat.reduceBEq Nat.reduceSub reduceCtorEq Int.reduceLE Int.reduceNeg Int.reduceLT
open Go.RowKit
end Go.Proofs.Ytlpdbkhekbdceaa
namespace Go.Proofs.Ytlpdbkhekbdceaa
set_option linter.unusedSimpArgs false
set_option linter.unusedVariables false
attribute [local go_sem ↓] reduceIte
attribute [local go_sem] Nat.reduceEqDiff Nat.reduceLT Nat.reduceAdd Nat.reduceLeDiff Nat.reduceMul Nat.reduceBEq Nat.reduceSub reduceCtorEq Int.reduceLE Int.reduceNeg Int.reduceLT
open Go.RowKit
end Go.Proofs.Ytlpdbkhekbdceaa
namespace Go.Proofs.Ytlpdbkhekbdceaa
set_option linter.unusedSimpArgs false
set_option linter.unusedVariables false
attribute [local go_sem ↓] reduceIte
attribute [local go_sem] Nat.reduceEqDiff Nat.reduceLT Nat.reduceAdd Nat.reduceLeDiff Nat.reduceMul Nat.reduceBEq Nat.reduceSub reduceCtorEq Int.reduceLE Int.reduceNeg Int.reduceLT
open Go.RowKit
structure QAny (nv:Int) (xs:List AtomD) (us:List Int):Prop where
 n0:0≤nv
 n1:nv≤6
 a0:1≤xs.length
 a1:xs.length≤5
 nm:NmOK xs
 at1:∀ x∈xs,x.vs.length≤5
 u1:us.length≤6
end Go.Proofs.Ytlpdbkhekbdceaa
namespace Go.Proofs.Ytlpdbkhekbdceaa
set_option linter.unusedSimpArgs false
set_option linter.unusedVariables false
attribute [local go_sem ↓] reduceIte
attribute [local go_sem] Nat.reduceEqDiff Nat.reduceLT Nat.reduceAdd Nat.reduceLeDiff Nat.reduceMul Nat.reduceBEq Nat.reduceSub reduceCtorEq Int.reduceLE Int.reduceNeg Int.reduceLT
open Go.RowKit
end Go.Proofs.Ytlpdbkhekbdceaa
namespace Go.Proofs.Ytlpdbkhekbdceaa
set_option linter.unusedSimpArgs false
set_option linter.unusedVariables false
attribute [local go_sem ↓] reduceIte
attribute [local go_sem] Nat.reduceEqDiff Nat.reduceLT Nat.reduceAdd Nat.reduceLeDiff Nat.reduceMul Nat.reduceBEq Nat.reduceSub reduceCtorEq Int.reduceLE Int.reduceNeg Int.reduceLT
open Go.RowKit
end Go.Proofs.Ytlpdbkhekbdceaa
namespace Go.Proofs.Ytlpdbkhekbdceaa
set_option linter.unusedSimpArgs false
set_option linter.unusedVariables false
open Go.RowKit
noncomputable def pvTo (nv:Int) (xs:List AtomD) (us:List Int) (vs:List Int):Nat→List Int
 | 0=>[]
 | k+1=>if occ vs k=true∧degF nv xs us k=1 then pvTo nv xs us vs k ++ [(k:Int)] else pvTo nv xs us vs k
noncomputable def d1F (nv:Int) (xs:List AtomD) (us:List Int) (L:List Int):List Int:=L.filter fun x=>decide (degF nv xs us x=1)
section
variable {nv:Int} {xs:List AtomD} {us vs L:List Int} {k:Nat}
end
noncomputable def pvF (nv:Int) (xs:List AtomD) (us:List Int) (i:Int):List Int :=
 if qOK nv xs us=true∧(0≤i∧i≤(xs.length:Int) - 1) then pvTo nv xs us (ax xs i.toNat).vs nv.toNat else []
end Go.Proofs.Ytlpdbkhekbdceaa
namespace Go.Proofs.Ytlpdbkhekbdceaa
set_option linter.unusedSimpArgs false
set_option linter.unusedVariables false
attribute [local go_sem ↓] reduceIte
attribute [local go_sem] Nat.reduceEqDiff Nat.reduceLT Nat.reduceAdd Nat.reduceLeDiff Nat.reduceMul Nat.reduceBEq Nat.reduceSub reduceCtorEq Int.reduceLE Int.reduceNeg Int.reduceLT
open Go.RowKit
noncomputable def comTo (a b:List Int):Nat→List Int
 | 0=>[]
 | k+1=>if occ a k=true∧occ b k=true then comTo a b k ++ [(k:Int)] else comTo a b k
theorem specVarsA (x:AtomD):AFn 36 [.d (atomDV x)] [] (fun r os=>r=.d (intsD (avTo x.vs 5))∧os=[]):=by
 refine own_afnG (fnOK (by kernel_rfl)) ?_
 rintro w G _ ⟨v1,_,rfl,h1,rfl⟩ hC
 obtain ⟨a,n,c,rfl,hI⟩:=cv_atom hC h1
 exact specAtomVars x.nm a n c x.vs w hI (Nat.le_refl _)
noncomputable def subF (a b:List Int):Bool:=a.all (fun v=>occ b v)
end Go.Proofs.Ytlpdbkhekbdceaa
namespace Go.Proofs.Ytlpdbkhekbdceaa
set_option linter.unusedSimpArgs false
set_option linter.unusedVariables false
attribute [local go_sem ↓] reduceIte
attribute [local go_sem] Nat.reduceEqDiff Nat.reduceLT Nat.reduceAdd Nat.reduceLeDiff Nat.reduceMul Nat.reduceBEq Nat.reduceSub reduceCtorEq Int.reduceLE Int.reduceNeg Int.reduceLT
open Go.RowKit
theorem avTo_mem5 {vs:List Int} {v:Int} (h0:0≤v) (h5:v≤4) (h:occ vs v=true):∃ j,j<(avTo vs 5).length∧ix (avTo vs 5) j=v:=by
 have key:∀ k:Nat,(v<k)→v∈avTo vs k:=by
  intro k
  induction k with
  | zero=>intro h;omega
  | succ k ih =>
   intro hv
   simp only [avTo]
   by_cases e:v=k
   ·subst e;rw [if_pos h];simp
   ·have:=ih (by omega)
    split
    ·exact List.mem_append_left _ this
    ·exact this
 obtain ⟨j,hj,e⟩:=List.mem_iff_getElem.1 (key 5 (by omega))
 exact ⟨j,hj,by rw [ix_lt hj,e]⟩
theorem rowB_ix {vs row:List Int} {j:Nat} (h:j<(avTo vs 5).length):ix (rowB vs row) j=ix row (findF vs (ix (avTo vs 5) j)).toNat:=by
 unfold rowB
 rw [ix_lt (by simpa using h),List.getElem_map,ix_lt h]
set_option maxHeartbeats 4000000 in
theorem specBindA (xs:List TableD) (x:AtomD) (hn:NmT xs) (hlen:xs.length≤1048576) (hb:BindOK xs x) (hnr:nrOK ((avTo x.vs 5).length:Nat) (bindL x.vs (lkRows xs x.nm))=true):AFn 21 [.d (dbD xs),.d (atomDV x)] [] (fun r os=>r=.d (relD ((avTo x.vs 5).length:Nat) (srt (bindL x.vs (lkRows xs x.nm))))∧os=[]):=by
 refine afn_of (rv:=[.cell 4 53]) tyT_ok Try.func21 rfl (by decide +kernel) Try.ntmps21 rfl (by simp) ?_
 obtain ⟨hok,har,hfit,hrl,hrk,hnb⟩:=hb
 obtain ⟨hv5,hvr⟩:=fit_yes hfit
 have hart:lkAr xs x.nm=(x.vs.length:Nat)↔True:=iff_of_true har trivial
 obtain ⟨rows,hrows⟩:∃ r,lkRows xs x.nm=r:=⟨_,rfl⟩
 rw [hrows] at hrl hrk hnr ⊢
 have hav:∀ v∈avTo x.vs 5,0≤v∧v<5∧occ x.vs v=true:=avTo_rng
 have havl:(avTo x.vs 5).length≤5:=avTo_len x.vs 5
 repeat' (first | refine sq ?_ | refine stp ?_ | refine blk_o (by decide) ?_ | (apply cb;(focus (simp (disch:=(first | omega | (simp;omega))) only [go_sem,w64];try exact rfl));refine cok ?_) | (refine rgT ?_;intro K hK) | (refine dA ?_;intro K hK) | (with_reducible refine hK _ ?_;clear hK K) | (refine stq ?_;simp (disch:=(first | omega | (simp;omega))) only [go_sem,w64]) | refine as1 ?_ | fail)
 (first | refine callA (specVarsA x) ?_ | refine callD (specVarsA x) ?_ | refine callE (specVarsA x) ?_ | refine callF (specVarsA x) ?_ ?_)
 repeat' (first | refine sq ?_ | refine stp ?_ | refine blk_o (by decide) ?_ | (apply cb;(focus (simp (disch:=(first | omega | (simp;omega))) only [go_sem,w64,intsD];try exact rfl));refine cok ?_) | (refine rgT ?_;intro K hK) | (refine dA ?_;intro K hK) | (with_reducible refine hK _ ?_;clear hK K) | (refine stq ?_;simp (disch:=(first | omega | (simp;omega))) only [go_sem,w64,intsD]) | refine as1 ?_ | fail)
 (first | refine callA (specLookA xs x.nm hn hlen) ?_ | refine callD (specLookA xs x.nm hn hlen) ?_ | refine callE (specLookA xs x.nm hn hlen) ?_ | refine callF (specLookA xs x.nm hn hlen) ?_ ?_)
 rw [hok,hrows]
 repeat' (first | refine sq ?_ | refine stp ?_ | refine blk_o (by decide) ?_ | (apply cb;(focus (simp (disch:=(first | omega | (simp;omega))) only [go_sem,w64,intsD,hart];try exact rfl));refine cok ?_) | (refine rgT ?_;intro K hK) | (refine dA ?_;intro K hK) | (with_reducible refine hK _ ?_;clear hK K) | (refine stq ?_;simp (disch:=(first | omega | (simp;omega))) only [go_sem,w64,intsD,hart]) | refine as1 ?_ | fail)
 refine awp_loopw (fun m s=>∃ k,m=rows.length - k∧k≤rows.length∧s=mkS [(3,.ptr 3 0),(4,.ptr 4 0),(5,.d (intsD (avTo x.vs 5))),(6,.ptr 6 0),(8,.ptr 8 0),(9,.buf 41 26 1 ((bindL x.vs (rows.take k)).map intsD)),(10,.d (.int (k:Nat)))] [(3,[.d (.str x.nm),.d (intsD x.vs)]),(4,[.d (.int 0),.nil]),(6,[.d (.int (x.vs.length:Nat)),.d (rowsD rows)]),(8,[.d (.int ((avTo x.vs 5).length:Nat)),.d (.sl 1 [])])]) ?_ ?_
 ·refine ⟨_,_,?_,0,rfl,Nat.zero_le _,rfl⟩
  (refine sle_mk ?_ ?_ <;> simp (disch:=(first | omega | (simp;omega))) only [go_sem,w64,har] <;> exact leafs)
 ·rintro m s ⟨k,rfl,hk,rfl⟩
  repeat' (first | refine sq ?_ | refine stp ?_ | refine blk_o (by decide) ?_ | (apply cb;(focus (simp (disch:=(first | omega | (simp;omega))) only [go_sem,w64,rowsD,List.length_map];try exact rfl));refine cok ?_) | (refine rgT ?_;intro K hK) | (refine dA ?_;intro K hK) | (with_reducible refine hK _ ?_;clear hK K) | (refine stq ?_;simp (disch:=(first | omega | (simp;omega))) only [go_sem,w64,rowsD,List.length_map]) | refine as1 ?_ | fail)
  refine awp_if (p:=(k:Int)<rows.length) (by simp (disch:=(first | omega | (simp;omega))) only [go_sem,w64]) ?_ ?_ <;> intro hc
  ·have hk2:k<rows.length:=by omega
   have g0:(rows.map intsD).getD k (.bool false)=intsD (rx rows k):=getDR hk2
   have hkt:(k:Int)<(rows.length:Nat)↔True:=iff_of_true hc trivial
   obtain ⟨hrl1,hrv⟩:=hrk k hk2
   obtain ⟨row,hrow⟩:∃ r,rx rows k=r:=⟨_,rfl⟩
   rw [hrow] at hrl1 hrv g0
   repeat' (first | refine sq ?_ | refine stp ?_ | refine blk_o (by decide) ?_ | (apply cb;(focus (simp (disch:=(first | omega | (simp;omega))) only [go_sem,w64,rowsD,g0];try exact rfl));refine cok ?_) | (refine rgT ?_;intro K hK) | (refine dA ?_;intro K hK) | (with_reducible refine hK _ ?_;clear hK K) | (refine stq ?_;simp (disch:=(first | omega | (simp;omega))) only [go_sem,w64,rowsD,g0]) | refine as1 ?_ | fail)
   refine awp_loopw (fun m s=>∃ j,m=(avTo x.vs 5).length - j∧j≤(avTo x.vs 5).length∧s=mkS [(3,.ptr 3 0),(4,.ptr 4 0),(5,.d (intsD (avTo x.vs 5))),(6,.ptr 6 0),(8,.ptr 8 0),(9,.buf 41 26 1 ((bindL x.vs (rows.take k)).map intsD)),(10,.d (.int (k:Nat))),(11,.buf 49 3 1 (((rowB x.vs row).take j).map DV.int)),(12,.d (.int (j:Nat)))] [(3,[.d (.str x.nm),.d (intsD x.vs)]),(4,[.d (.int 0),.nil]),(6,[.d (.int (x.vs.length:Nat)),.d (rowsD rows)]),(8,[.d (.int ((avTo x.vs 5).length:Nat)),.d (.sl 1 [])])]) ?_ ?_
   ·refine ⟨_,_,?_,0,rfl,Nat.zero_le _,rfl⟩
    exact sleA
   ·rintro m s ⟨j,rfl,hj,rfl⟩
    repeat' (first | refine sq ?_ | refine stp ?_ | refine blk_o (by decide) ?_ | (apply cb;(focus (simp (disch:=(first | omega | (simp;omega))) only [go_sem,w64,intsD,List.length_map];try exact rfl));refine cok ?_) | (refine rgT ?_;intro K hK) | (refine dA ?_;intro K hK) | (with_reducible refine hK _ ?_;clear hK K) | (refine stq ?_;simp (disch:=(first | omega | (simp;omega))) only [go_sem,w64,intsD,List.length_map]) | refine as1 ?_ | fail)
    refine awp_if (p:=(j:Int)<(avTo x.vs 5).length) (by simp (disch:=(first | omega | (simp;omega))) only [go_sem,w64]) ?_ ?_ <;> intro hc2
    ·have hj2:j<(avTo x.vs 5).length:=by omega
     have hm:=hav _ (ix_memD hj2)
     obtain ⟨f1,f2,f3⟩:=findF_at hm.2.2
     have f1t:0≤findF x.vs (ix (avTo x.vs 5) j)↔True:=iff_of_true f1 trivial
     have f2t:findF x.vs (ix (avTo x.vs 5) j)<((row.length:Nat):Int)↔True:=iff_of_true (by omega) trivial
     have f4:(findF x.vs (ix (avTo x.vs 5) j)).toNat<row.length:=by omega
     have hjt:(j:Int)<((avTo x.vs 5).length:Nat)↔True:=iff_of_true hc2 trivial
     have hbf:((rowB x.vs row).take j).length≤16777215↔True:=iff_of_true (by rw [List.length_take,rowB_len];omega) trivial
     repeat' (first | refine sq ?_ | refine stp ?_ | refine blk_o (by decide) ?_ | (apply cb;(focus (simp (disch:=(first | omega | (simp;omega))) only [go_sem,w64,rowsD,intsD,g0,hkt,hjt,f1t,f2t,List.length_map,hbf];try exact rfl));refine cok ?_) | (refine rgT ?_;intro K hK) | (refine dA ?_;intro K hK) | (with_reducible refine hK _ ?_;clear hK K) | (refine stq ?_;simp (disch:=(first | omega | (simp;omega))) only [go_sem,w64,rowsD,intsD,g0,hkt,hjt,f1t,f2t,List.length_map,hbf]) | refine as1 ?_ | fail)
     (first | refine callA (l7FindX x.vs (ix (avTo x.vs 5) j) (by omega)) ?_ | refine callD (l7FindX x.vs (ix (avTo x.vs 5) j) (by omega)) ?_ | refine callE (l7FindX x.vs (ix (avTo x.vs 5) j) (by omega)) ?_ | refine callF (l7FindX x.vs (ix (avTo x.vs 5) j) (by omega)) ?_ ?_)
     repeat' (first | refine sq ?_ | refine stp ?_ | refine blk_o (by decide) ?_ | (apply cb;(focus (simp (disch:=(first | omega | (simp;omega))) only [go_sem,w64,rowsD,intsD,g0,hkt,hjt,f1t,f2t,List.length_map,hbf];try exact rfl));refine cok ?_) | (refine rgT ?_;intro K hK) | (refine dA ?_;intro K hK) | (with_reducible refine hK _ ?_;clear hK K) | (refine stq ?_;simp (disch:=(first | omega | (simp;omega))) only [go_sem,w64,rowsD,intsD,g0,hkt,hjt,f1t,f2t,List.length_map,hbf]) | refine as1 ?_ | fail)
     refine ⟨(avTo x.vs 5).length - (j+1),_,by omega,?_,j+1,rfl,by omega,rfl⟩
     have hts:(rowB x.vs row).take (j+1)=(rowB x.vs row).take j ++ [ix row (findF x.vs (ix (avTo x.vs 5) j)).toNat]:=by
      rw [List.take_succ_eq_append_getElem (by rw [rowB_len];exact hj2),← rowB_ix hj2,ix_lt (by rw [rowB_len];exact hj2)]
     rw [hts,map_snoc]
     exact sleA
    ·obtain rfl:j=(avTo x.vs 5).length:=by omega
     have htk:(rowB x.vs row).take (avTo x.vs 5).length=rowB x.vs row:=List.take_of_length_le (by rw [rowB_len];exact Nat.le_refl _)
     rw [htk]
     have hrbl:=rowB_len x.vs row
     repeat' (first | refine sq ?_ | refine stp ?_ | refine blk_o (by decide) ?_ | (apply cb;(focus (simp (disch:=(first | omega | (simp;omega))) only [go_sem,w64];try exact rfl));refine cok ?_) | (refine rgT ?_;intro K hK) | (refine dA ?_;intro K hK) | (with_reducible refine hK _ ?_;clear hK K) | (refine stq ?_;simp (disch:=(first | omega | (simp;omega))) only [go_sem,w64]) | refine as1 ?_ | fail)
     refine awp_loopw (fun m s=>∃ i,m=x.vs.length - i∧i≤x.vs.length∧s=mkS [(3,.ptr 3 0),(4,.ptr 4 0),(5,.d (intsD (avTo x.vs 5))),(6,.ptr 6 0),(8,.ptr 8 0),(9,.buf 41 26 1 ((bindL x.vs (rows.take k)).map intsD)),(10,.d (.int (k:Nat))),(11,.buf 49 3 1 ((rowB x.vs row).map DV.int)),(13,.d (.bool (fitTo x.vs row i))),(14,.d (.int (i:Nat)))] [(3,[.d (.str x.nm),.d (intsD x.vs)]),(4,[.d (.int 0),.nil]),(6,[.d (.int (x.vs.length:Nat)),.d (rowsD rows)]),(8,[.d (.int ((avTo x.vs 5).length:Nat)),.d (.sl 1 [])])]) ?_ ?_
     ·refine ⟨_,_,?_,0,rfl,Nat.zero_le _,rfl⟩
      (refine sle_mk ?_ ?_ <;> simp (disch:=(first | omega | (simp;omega))) only [go_sem,w64,fitTo] <;> exact leafs)
     ·rintro m s ⟨i,rfl,hi,rfl⟩
      repeat' (first | refine sq ?_ | refine stp ?_ | refine blk_o (by decide) ?_ | (apply cb;(focus (simp (disch:=(first | omega | (simp;omega))) only [go_sem,w64,intsD,List.length_map];try exact rfl));refine cok ?_) | (refine rgT ?_;intro K hK) | (refine dA ?_;intro K hK) | (with_reducible refine hK _ ?_;clear hK K) | (refine stq ?_;simp (disch:=(first | omega | (simp;omega))) only [go_sem,w64,intsD,List.length_map]) | refine as1 ?_ | fail)
      refine awp_if (p:=(i:Int)<x.vs.length) (by simp (disch:=(first | omega | (simp;omega))) only [go_sem,w64]) ?_ ?_ <;> intro hc3
      ·have hi2:i<x.vs.length:=by omega
       have hvi:=hvr i hi2
       have hit:(i:Int)<(x.vs.length:Nat)↔True:=iff_of_true hc3 trivial
       have hoc:occ (avTo x.vs 5) (ix x.vs i)=true:=by
        obtain ⟨p,hp,he⟩:=avTo_mem5 hvi.1 (by omega) (occ_ix i hi2 rfl)
        exact occ_ix p hp he
       obtain ⟨f1,f2,f3⟩:=findF_at hoc
       have e1t:0≤findF (avTo x.vs 5) (ix x.vs i)↔True:=iff_of_true f1 trivial
       have e2t:findF (avTo x.vs 5) (ix x.vs i)<((rowB x.vs row).length:Nat)↔True:=iff_of_true (by omega) trivial
       have e4:(findF (avTo x.vs 5) (ix x.vs i)).toNat<(rowB x.vs row).length:=by omega
       have e3:ix (rowB x.vs row) (findF (avTo x.vs 5) (ix x.vs i)).toNat=ix row (findF x.vs (ix x.vs i)).toNat:=by rw [rowB_ix f2,f3]
       have i1t:(i:Int)<((row.length:Nat):Int)↔True:=iff_of_true (by omega) trivial
       have i3:i<row.length:=by omega
       cases ht:fitTo x.vs row i with
       | true =>
        by_cases he:ix row (findF x.vs (ix x.vs i)).toNat=ix row i
        ·have het:ix row (findF x.vs (ix x.vs i)).toNat=ix row i↔True:=iff_of_true he trivial
         have hf:fitTo x.vs row (i+1)=true:=by simp [fitTo,ht,he]
         repeat' (first | refine sq ?_ | refine stp ?_ | refine blk_o (by decide) ?_ | (apply cb;(focus (simp (disch:=(first | omega | (simp;omega))) only [go_sem,w64,rowsD,intsD,g0,hkt,hit,e1t,e2t,i1t,List.length_map,e3,het];try exact rfl));refine cok ?_) | (refine rgT ?_;intro K hK) | (refine dA ?_;intro K hK) | (with_reducible refine hK _ ?_;clear hK K) | (refine stq ?_;simp (disch:=(first | omega | (simp;omega))) only [go_sem,w64,rowsD,intsD,g0,hkt,hit,e1t,e2t,i1t,List.length_map,e3,het]) | refine as1 ?_ | fail)
         (first | refine callA (l7FindX (avTo x.vs 5) (ix x.vs i) (by omega)) ?_ | refine callD (l7FindX (avTo x.vs 5) (ix x.vs i) (by omega)) ?_ | refine callE (l7FindX (avTo x.vs 5) (ix x.vs i) (by omega)) ?_ | refine callF (l7FindX (avTo x.vs 5) (ix x.vs i) (by omega)) ?_ ?_)
         repeat' (first | refine sq ?_ | refine stp ?_ | refine blk_o (by decide) ?_ | (apply cb;(focus (simp (disch:=(first | omega | (simp;omega))) only [go_sem,w64,rowsD,intsD,g0,hkt,hit,e1t,e2t,i1t,List.length_map,e3,het];try exact rfl));refine cok ?_) | (refine rgT ?_;intro K hK) | (refine dA ?_;intro K hK) | (with_reducible refine hK _ ?_;clear hK K) | (refine stq ?_;simp (disch:=(first | omega | (simp;omega))) only [go_sem,w64,rowsD,intsD,g0,hkt,hit,e1t,e2t,i1t,List.length_map,e3,het]) | refine as1 ?_ | fail)
         refine ⟨x.vs.length - (i+1),_,by omega,?_,i+1,rfl,by omega,rfl⟩
         rw [hf]
         exact sleA
        ·have het:ix row (findF x.vs (ix x.vs i)).toNat=ix row i↔False:=iff_of_false he id
         have hf:fitTo x.vs row (i+1)=false:=by simp [fitTo,ht,he]
         repeat' (first | refine sq ?_ | refine stp ?_ | refine blk_o (by decide) ?_ | (apply cb;(focus (simp (disch:=(first | omega | (simp;omega))) only [go_sem,w64,rowsD,intsD,g0,hkt,hit,e1t,e2t,i1t,List.length_map,e3,het];try exact rfl));refine cok ?_) | (refine rgT ?_;intro K hK) | (refine dA ?_;intro K hK) | (with_reducible refine hK _ ?_;clear hK K) | (refine stq ?_;simp (disch:=(first | omega | (simp;omega))) only [go_sem,w64,rowsD,intsD,g0,hkt,hit,e1t,e2t,i1t,List.length_map,e3,het]) | refine as1 ?_ | fail)
         (first | refine callA (l7FindX (avTo x.vs 5) (ix x.vs i) (by omega)) ?_ | refine callD (l7FindX (avTo x.vs 5) (ix x.vs i) (by omega)) ?_ | refine callE (l7FindX (avTo x.vs 5) (ix x.vs i) (by omega)) ?_ | refine callF (l7FindX (avTo x.vs 5) (ix x.vs i) (by omega)) ?_ ?_)
         repeat' (first | refine sq ?_ | refine stp ?_ | refine blk_o (by decide) ?_ | (apply cb;(focus (simp (disch:=(first | omega | (simp;omega))) only [go_sem,w64,rowsD,intsD,g0,hkt,hit,e1t,e2t,i1t,List.length_map,e3,het];try exact rfl));refine cok ?_) | (refine rgT ?_;intro K hK) | (refine dA ?_;intro K hK) | (with_reducible refine hK _ ?_;clear hK K) | (refine stq ?_;simp (disch:=(first | omega | (simp;omega))) only [go_sem,w64,rowsD,intsD,g0,hkt,hit,e1t,e2t,i1t,List.length_map,e3,het]) | refine as1 ?_ | fail)
         refine ⟨x.vs.length - (i+1),_,by omega,?_,i+1,rfl,by omega,rfl⟩
         rw [hf]
         exact sleA
       | false =>
        have hf:fitTo x.vs row (i+1)=false:=by simp [fitTo,ht]
        repeat' (first | refine sq ?_ | refine stp ?_ | refine blk_o (by decide) ?_ | (apply cb;(focus (simp (disch:=(first | omega | (simp;omega))) only [go_sem,w64,rowsD,intsD,g0,hkt,hit,e1t,e2t,i1t,List.length_map];try exact rfl));refine cok ?_) | (refine rgT ?_;intro K hK) | (refine dA ?_;intro K hK) | (with_reducible refine hK _ ?_;clear hK K) | (refine stq ?_;simp (disch:=(first | omega | (simp;omega))) only [go_sem,w64,rowsD,intsD,g0,hkt,hit,e1t,e2t,i1t,List.length_map]) | refine as1 ?_ | fail)
        (first | refine callA (l7FindX (avTo x.vs 5) (ix x.vs i) (by omega)) ?_ | refine callD (l7FindX (avTo x.vs 5) (ix x.vs i) (by omega)) ?_ | refine callE (l7FindX (avTo x.vs 5) (ix x.vs i) (by omega)) ?_ | refine callF (l7FindX (avTo x.vs 5) (ix x.vs i) (by omega)) ?_ ?_)
        repeat' (first | refine sq ?_ | refine stp ?_ | refine blk_o (by decide) ?_ | (apply cb;(focus (simp (disch:=(first | omega | (simp;omega))) only [go_sem,w64,rowsD,intsD,g0,hkt,hit,e1t,e2t,i1t,List.length_map];try exact rfl));refine cok ?_) | (refine rgT ?_;intro K hK) | (refine dA ?_;intro K hK) | (with_reducible refine hK _ ?_;clear hK K) | (refine stq ?_;simp (disch:=(first | omega | (simp;omega))) only [go_sem,w64,rowsD,intsD,g0,hkt,hit,e1t,e2t,i1t,List.length_map]) | refine as1 ?_ | fail)
        refine ⟨x.vs.length - (i+1),_,by omega,?_,i+1,rfl,by omega,rfl⟩
        rw [hf]
        exact sleA
      ·obtain rfl:i=x.vs.length:=by omega
       have hbuf:(bindL x.vs (rows.take k)).length≤16777215↔True:=iff_of_true (by have:=bindL_len x.vs (rows.take k);simp at this;omega) trivial
       cases ht:fitB x.vs row with
       | true =>
        have ht':fitTo x.vs row x.vs.length=true:=ht
        repeat' (first | refine sq ?_ | refine stp ?_ | refine blk_o (by decide) ?_ | (apply cb;(focus (simp (disch:=(first | omega | (simp;omega))) only [go_sem,w64,List.length_map,ht',hbuf];try exact rfl));refine cok ?_) | (refine rgT ?_;intro K hK) | (refine dA ?_;intro K hK) | (with_reducible refine hK _ ?_;clear hK K) | (refine stq ?_;simp (disch:=(first | omega | (simp;omega))) only [go_sem,w64,List.length_map,ht',hbuf]) | refine as1 ?_ | fail)
        refine ⟨rows.length - (k+1),_,by omega,?_,k+1,rfl,by omega,rfl⟩
        rw [bindL_put hk2 (by rw [hrow];exact ht),hrow,map_snoc]
        exact sleA
       | false =>
        have ht':fitTo x.vs row x.vs.length=false:=ht
        repeat' (first | refine sq ?_ | refine stp ?_ | refine blk_o (by decide) ?_ | (apply cb;(focus (simp (disch:=(first | omega | (simp;omega))) only [go_sem,w64,List.length_map,ht',hbuf];try exact rfl));refine cok ?_) | (refine rgT ?_;intro K hK) | (refine dA ?_;intro K hK) | (with_reducible refine hK _ ?_;clear hK K) | (refine stq ?_;simp (disch:=(first | omega | (simp;omega))) only [go_sem,w64,List.length_map,ht',hbuf]) | refine as1 ?_ | fail)
        refine ⟨rows.length - (k+1),_,by omega,?_,k+1,rfl,by omega,rfl⟩
        rw [bindL_keep hk2 (by rw [hrow];exact ht)]
        exact sleA
  ·obtain rfl:k=rows.length:=by omega
   rw [List.take_length]
   repeat' (first | refine sq ?_ | refine stp ?_ | refine blk_o (by decide) ?_ | (apply cb;(focus (simp (disch:=(first | omega | (simp;omega))) only [go_sem,w64,List.length_map];try exact rfl));refine cok ?_) | (refine rgT ?_;intro K hK) | (refine dA ?_;intro K hK) | (with_reducible refine hK _ ?_;clear hK K) | (refine stq ?_;simp (disch:=(first | omega | (simp;omega))) only [go_sem,w64,List.length_map]) | refine as1 ?_ | fail)
   (first | refine callA (specNewRelA ((avTo x.vs 5).length:Nat) (bindL x.vs rows) (by have:=bindL_len x.vs rows;omega) (by omega)) ?_ | refine callD (specNewRelA ((avTo x.vs 5).length:Nat) (bindL x.vs rows) (by have:=bindL_len x.vs rows;omega) (by omega)) ?_ | refine callE (specNewRelA ((avTo x.vs 5).length:Nat) (bindL x.vs rows) (by have:=bindL_len x.vs rows;omega) (by omega)) ?_ | refine callF (specNewRelA ((avTo x.vs 5).length:Nat) (bindL x.vs rows) (by have:=bindL_len x.vs rows;omega) (by omega)) ?_ ?_)
   obtain ⟨n1,n2⟩:=nr_yes hnr
   rw [hnr,n1,n2]
   repeat' (first | refine sq ?_ | refine stp ?_ | refine blk_o (by decide) ?_ | (apply cb;(focus (simp (disch:=(first | omega | (simp;omega))) only [go_sem,w64];try exact rfl));refine cok ?_) | (refine rgT ?_;intro K hK) | (refine dA ?_;intro K hK) | (with_reducible refine hK _ ?_;clear hK K) | (refine stq ?_;simp (disch:=(first | omega | (simp;omega))) only [go_sem,w64]) | refine as1 ?_ | fail)
   (refine endA (r:=.d (relD ((avTo x.vs 5).length:Nat) (srt (bindL x.vs rows)))) ?_)
   exact ⟨rfl,rfl⟩
end Go.Proofs.Ytlpdbkhekbdceaa
namespace Go.Proofs.Ytlpdbkhekbdceaa
set_option linter.unusedSimpArgs false
set_option linter.unusedVariables false
attribute [local go_sem ↓] reduceIte
attribute [local go_sem] Nat.reduceEqDiff Nat.reduceLT Nat.reduceAdd Nat.reduceLeDiff Nat.reduceMul Nat.reduceBEq Nat.reduceSub reduceCtorEq Int.reduceLE Int.reduceNeg Int.reduceLT
open Go.RowKit
theorem lk_some {xs:List TableD} {s:ByteArray} (h:lkOK xs s=true):dbOK xs=true∧∃ k,k<xs.length∧lkAr xs s=(tbx xs k).ar∧lkRows xs s=(tbx xs k).rows:=by
 unfold lkOK at h
 obtain ⟨y,hy⟩:=Option.isSome_iff_exists.1 h
 have h2:=hy
 unfold lkF at h2
 split at h2
 ·rename_i hd
  obtain ⟨k,hk,rfl⟩:=List.mem_iff_getElem.1 (List.mem_of_find?_eq_some h2)
  refine ⟨hd,k,hk,?_,?_⟩
  ·simp [lkAr,hy,tbx_lt hk]
  ·simp [lkRows,hy,tbx_lt hk]
 ·cases h2
theorem valB_out {l:List Int} (h:valB l=true):∀ i,i<l.length→0≤ix l i∧ix l i≤99:=by
 have h2:ValTo l l.length:=by simpa [valB] using h
 exact h2
theorem bind_ok {nv:Int} {qs:List AtomD} {us:List Int} {xs:List TableD} (hq:NmOK qs) (h:qfOK nv qs us xs=true) {i:Nat} (hi:i<qs.length):BindOK xs (ax qs i)∧nrOK ((avTo (ax qs i).vs 5).length:Nat) (bindL (ax qs i).vs (lkRows xs (ax qs i).nm))=true:=by
 obtain ⟨h1,h2,h3⟩:=qf_out h
 obtain ⟨⟨hv1,hv2⟩,hn4⟩:=(qOK_out h1).1
 obtain ⟨g1,⟨g2,g3⟩,g4⟩:=(qOK_out h1).2.2.1 i hi
 obtain ⟨f1,f2⟩:=h3 i hi
 obtain ⟨_,k,hk,e1,e2⟩:=lk_some f1
 obtain ⟨t1,t2,t3,t4,t5⟩:=(dbOK_out h2).2 k hk
 obtain ⟨⟨a1,a2⟩,a3,a4⟩:=validR_out t3
 have hb:BindOK xs (ax qs i):=⟨f1,f2,fit_in g3 (fun j hj=>by have:=g4 j hj;omega),by rw [e2];exact t5,fun j hj=>by
  rw [e2] at hj ⊢
  have:=a4 j hj
  exact ⟨by have:=this.1;omega,this.2.1⟩,by rw [ax_lt hi];exact hq _ (List.getElem_mem _)⟩
 refine ⟨hb,?_⟩
 have hrl:=hb.rl
 have hrk:=hb.rk
 clear hb f1 f2 e1 e2 g2 g3 g4
 generalize lkRows xs (ax qs i).nm=rows at *
 generalize (ax qs i).vs=vs at *
 have hrow:∀ y∈bindL vs rows,y.length=(avTo vs 5).length∧valB y=true:=fun y hy=>by
  obtain ⟨r,hr,rfl⟩:=List.mem_map.1 hy
  have hr':=(List.mem_filter.1 hr).1
  obtain ⟨j,hj,rfl⟩:=List.mem_iff_getElem.1 hr'
  refine ⟨rowB_len _ _,valB_true fun p hp=>?_⟩
  rw [rowB_len] at hp
  rw [rowB_ix hp]
  have hm:=avTo_rng _ (ix_memD hp)
  obtain ⟨q1,q2,q3⟩:=findF_at hm.2.2
  have:=hrk j hj
  rw [rx_lt hj] at this
  exact valB_out this.2 _ (by omega)
 have hlen:=bindL_len vs rows
 have havl:=avTo_len vs 5
 refine nr_in (fun j hj=>?_) (validR_true ⟨by omega,by omega⟩ (by have:=srt_len (bindL vs rows);omega) fun j hj=>?_)
 ·have:=hrow (rx (bindL vs rows) j) (by rw [rx_lt hj];exact List.getElem_mem _)
  exact ⟨by omega,this.2⟩
 ·have hm0:rx (srt (bindL vs rows)) j∈srt (bindL vs rows):=by rw [rx_lt hj];exact List.getElem_mem _
  have hm:=mem_srt.1 hm0
  have:=hrow _ hm
  refine ⟨by omega,this.2,fun h0=>?_⟩
  have ha:=asc_srt (bindL_same vs rows)
  have:=List.pairwise_iff_getElem.1 ha (j - 1) j (by omega) hj (by omega)
  rw [rx_lt hj,rx_lt (by omega)]
  exact this
noncomputable def szA (xs:List TableD) (x:AtomD):Int:=((srt (bindL x.vs (lkRows xs x.nm))).length:Nat)
noncomputable def szTo (xs:List TableD) (qs:List AtomD):Nat→List Int
 | 0=>[]
 | k+1=>szTo xs qs k ++ [szA xs (ax qs k)]
noncomputable def asF (nv:Int) (qs:List AtomD) (us:List Int) (xs:List TableD):List Int:=if qfOK nv qs us xs=true then szTo xs qs qs.length else []
theorem szTo_len (xs:List TableD) (qs:List AtomD) (k:Nat):(szTo xs qs k).length=k:=by
 induction k with
 | zero=>rfl
 | succ k ih=>simp [szTo,ih]
theorem asF_len (nv:Int) (qs:List AtomD) (us:List Int) (xs:List TableD):(asF nv qs us xs).length≤qs.length:=by
 unfold asF;split
 ·rw [szTo_len];exact Nat.le_refl _
 ·simp
section
variable (nv:Int) (qs:List AtomD) (us:List Int) (xs:List TableD) (hq:NmOK qs) (hn:NmT xs) (hlen:xs.length≤1048576) (hql:qs.length≤1048576)
include hq hn hlen hql
set_option maxHeartbeats 4000000 in
theorem implSizesA:AFn 9 [.d (dbD xs),.d (queryD nv qs us)] [] (fun r os=>r=.tup [.d (whD (asF nv qs us xs)),.d (.bool (qfOK nv qs us xs))]∧os=[]):=by
 refine afn_of (rv:=[.tmp 4,.tmp 5]) tyT_ok Try.func9 rfl (by decide +kernel) Try.ntmps9 rfl (by simp) ?_
 repeat' (first | refine sq ?_ | refine stp ?_ | refine blk_o (by decide) ?_ | (apply cb;(focus (simp (disch:=(first | omega | (simp;omega))) only [go_sem,w64];try exact rfl));refine cok ?_) | (refine rgT ?_;intro K hK) | (refine dA ?_;intro K hK) | (with_reducible refine hK _ ?_;clear hK K) | (refine stq ?_;simp (disch:=(first | omega | (simp;omega))) only [go_sem,w64]) | refine as1 ?_ | fail)
 (first | refine callA (implQForA nv qs us xs hq hn hlen hql) ?_ | refine callD (implQForA nv qs us xs hq hn hlen hql) ?_ | refine callE (implQForA nv qs us xs hq hn hlen hql) ?_ | refine callF (implQForA nv qs us xs hq hn hlen hql) ?_ ?_)
 cases h1:qfOK nv qs us xs with
 | false =>
  repeat' (first | refine sq ?_ | refine stp ?_ | refine blk_o (by decide) ?_ | (apply cb;(focus (simp (disch:=(first | omega | (simp;omega))) only [go_sem,w64];try exact rfl));refine cok ?_) | (refine rgT ?_;intro K hK) | (refine dA ?_;intro K hK) | (with_reducible refine hK _ ?_;clear hK K) | (refine stq ?_;simp (disch:=(first | omega | (simp;omega))) only [go_sem,w64]) | refine as1 ?_ | fail)
  have e:asF nv qs us xs=[]:=by simp [asF,h1]
  rw [e,h1]
  (refine endA (r:=.tup [.d (.wh 1 []),.d (.bool false)]) ?_)
  exact ⟨rfl,rfl⟩
 | true =>
  have e:asF nv qs us xs=szTo xs qs qs.length:=by simp [asF,h1]
  repeat' (first | refine sq ?_ | refine stp ?_ | refine blk_o (by decide) ?_ | (apply cb;(focus (simp (disch:=(first | omega | (simp;omega))) only [go_sem,w64,List.length_map];try exact rfl));refine cok ?_) | (refine rgT ?_;intro K hK) | (refine dA ?_;intro K hK) | (with_reducible refine hK _ ?_;clear hK K) | (refine stq ?_;simp (disch:=(first | omega | (simp;omega))) only [go_sem,w64,List.length_map]) | refine as1 ?_ | fail)
  refine awp_nilbuf 6 6 3 1 (by simp (disch:=(first | omega | (simp;omega))) only [go_sem,w64]) ?_
  refine awp_loopw (fun m st=>∃ k,m=qs.length - k∧k≤qs.length∧st=mkS [(2,.ptr 2 0),(6,.buf 6 3 1 ((szTo xs qs k).map DV.int)),(14,.d (.sl 2 (qs.map atomDV))),(15,.d (.int (qs.length:Nat))),(16,.d (.int (k:Nat)))] [(2,[.d (.sl 3 (xs.map tableDV))])]) ?_ ?_
  ·refine ⟨_,_,?_,0,rfl,Nat.zero_le _,rfl⟩
   (refine sle_mk ?_ ?_ <;> simp (disch:=(first | omega | (simp;omega))) only [go_sem,w64,szTo] <;> exact leafs)
  ·rintro m st ⟨k,rfl,hk,rfl⟩
   repeat' (first | refine sq ?_ | refine stp ?_ | refine blk_o (by decide) ?_ | (apply cb;(focus (simp (disch:=(first | omega | (simp;omega))) only [go_sem,w64];try exact rfl));refine cok ?_) | (refine rgT ?_;intro K hK) | (refine dA ?_;intro K hK) | (with_reducible refine hK _ ?_;clear hK K) | (refine stq ?_;simp (disch:=(first | omega | (simp;omega))) only [go_sem,w64]) | refine as1 ?_ | fail)
   refine awp_if (p:=(k:Int)<qs.length) (by simp (disch:=(first | omega | (simp;omega))) only [go_sem,w64]) ?_ ?_ <;> intro hc
   ·have hk2:k<qs.length:=by omega
    have g0:(qs.map atomDV).getD k (.bool false)=atomDV (ax qs k):=getDAq hk2
    have hl:=szTo_len xs qs k
    have hbt:(szTo xs qs k).length≤16777215↔True:=iff_of_true (by omega) trivial
    repeat' (first | refine sq ?_ | refine stp ?_ | refine blk_o (by decide) ?_ | (apply cb;(focus (simp (disch:=(first | omega | (simp;omega))) only [go_sem,w64,g0];try exact rfl));refine cok ?_) | (refine rgT ?_;intro K hK) | (refine dA ?_;intro K hK) | (with_reducible refine hK _ ?_;clear hK K) | (refine stq ?_;simp (disch:=(first | omega | (simp;omega))) only [go_sem,w64,g0]) | refine as1 ?_ | fail)
    (first | refine callA (implBindA xs (ax qs k) hn hlen (bind_ok hq h1 hk2).1) ?_ | refine callD (implBindA xs (ax qs k) hn hlen (bind_ok hq h1 hk2).1) ?_ | refine callE (implBindA xs (ax qs k) hn hlen (bind_ok hq h1 hk2).1) ?_ | refine callF (implBindA xs (ax qs k) hn hlen (bind_ok hq h1 hk2).1) ?_ ?_)
    repeat' (first | refine sq ?_ | refine stp ?_ | refine blk_o (by decide) ?_ | (apply cb;(focus (simp (disch:=(first | omega | (simp;omega))) only [go_sem,w64,g0,List.length_map,hbt];try exact rfl));refine cok ?_) | (refine rgT ?_;intro K hK) | (refine dA ?_;intro K hK) | (with_reducible refine hK _ ?_;clear hK K) | (refine stq ?_;simp (disch:=(first | omega | (simp;omega))) only [go_sem,w64,g0,List.length_map,hbt]) | refine as1 ?_ | fail)
    refine ⟨qs.length - (k+1),_,by omega,?_,k+1,rfl,by omega,rfl⟩
    simp only [szTo,List.map_append,szA,List.map_cons,List.map_nil]
    exact sleA
   ·obtain rfl:k=qs.length:=by omega
    repeat' (first | refine sq ?_ | refine stp ?_ | refine blk_o (by decide) ?_ | (apply cb;(focus (simp (disch:=(first | omega | (simp;omega))) only [go_sem,w64];try exact rfl));refine cok ?_) | (refine rgT ?_;intro K hK) | (refine dA ?_;intro K hK) | (with_reducible refine hK _ ?_;clear hK K) | (refine stq ?_;simp (disch:=(first | omega | (simp;omega))) only [go_sem,w64]) | refine as1 ?_ | fail)
    rw [e,h1]
    refine endG 6 (r:=.tup [.d (whD (szTo xs qs qs.length)),.d (.bool true)]) (h:=by simp (disch:=(first | omega | (simp;omega))) only [go_sem,w64];exact .tup (.cons (.bufw _ _ _ _) (.cons (.refl _) .nil))) ?_
    exact ⟨rfl,rfl⟩
set_option maxHeartbeats 4000000 in
theorem specSizesA:AFn 6 [.d (dbD xs),.d (queryD nv qs us)] [] (fun r os=>r=.tup [.d (whD (asF nv qs us xs)),.d (.bool (qfOK nv qs us xs))]∧os=[]):=by
 refine afn_of (rv:=[.tmp 4,.tmp 5]) tyT_ok Try.func6 rfl (by decide +kernel) Try.ntmps6 rfl (by simp) ?_
 repeat' (first | refine sq ?_ | refine stp ?_ | refine blk_o (by decide) ?_ | (apply cb;(focus (simp (disch:=(first | omega | (simp;omega))) only [go_sem,w64];try exact rfl));refine cok ?_) | (refine rgT ?_;intro K hK) | (refine dA ?_;intro K hK) | (with_reducible refine hK _ ?_;clear hK K) | (refine stq ?_;simp (disch:=(first | omega | (simp;omega))) only [go_sem,w64]) | refine as1 ?_ | fail)
 (first | refine callA (specQForA nv qs us xs hq hn hlen hql) ?_ | refine callD (specQForA nv qs us xs hq hn hlen hql) ?_ | refine callE (specQForA nv qs us xs hq hn hlen hql) ?_ | refine callF (specQForA nv qs us xs hq hn hlen hql) ?_ ?_)
 cases h1:qfOK nv qs us xs with
 | false =>
  repeat' (first | refine sq ?_ | refine stp ?_ | refine blk_o (by decide) ?_ | (apply cb;(focus (simp (disch:=(first | omega | (simp;omega))) only [go_sem,w64];try exact rfl));refine cok ?_) | (refine rgT ?_;intro K hK) | (refine dA ?_;intro K hK) | (with_reducible refine hK _ ?_;clear hK K) | (refine stq ?_;simp (disch:=(first | omega | (simp;omega))) only [go_sem,w64]) | refine as1 ?_ | fail)
  have e:asF nv qs us xs=[]:=by simp [asF,h1]
  rw [e,h1]
  refine endG 8 (r:=.tup [.d (.wh 1 []),.d (.bool false)]) (h:=by simp (disch:=(first | omega | (simp;omega))) only [go_sem,w64];exact .tup (.cons (.bufw _ _ _ _) (.cons (.refl _) .nil))) ?_
  exact ⟨rfl,rfl⟩
 | true =>
  have e:asF nv qs us xs=szTo xs qs qs.length:=by simp [asF,h1]
  repeat' (first | refine sq ?_ | refine stp ?_ | refine blk_o (by decide) ?_ | (apply cb;(focus (simp (disch:=(first | omega | (simp;omega))) only [go_sem,w64,List.length_map];try exact rfl));refine cok ?_) | (refine rgT ?_;intro K hK) | (refine dA ?_;intro K hK) | (with_reducible refine hK _ ?_;clear hK K) | (refine stq ?_;simp (disch:=(first | omega | (simp;omega))) only [go_sem,w64,List.length_map]) | refine as1 ?_ | fail)
  refine awp_loopw (fun m st=>∃ k,m=qs.length - k∧k≤qs.length∧st=mkS [(2,.ptr 2 0),(3,.ptr 3 0),(6,.buf 8 3 1 ((szTo xs qs k).map DV.int)),(7,.d (.int (k:Nat)))] [(2,[.d (.sl 3 (xs.map tableDV))]),(3,[.d (.int nv),.d (.sl 2 (qs.map atomDV)),.d (intsD us)])]) ?_ ?_
  ·refine ⟨_,_,?_,0,rfl,Nat.zero_le _,rfl⟩
   (refine sle_mk ?_ ?_ <;> simp (disch:=(first | omega | (simp;omega))) only [go_sem,w64,szTo] <;> exact leafs)
  ·rintro m st ⟨k,rfl,hk,rfl⟩
   repeat' (first | refine sq ?_ | refine stp ?_ | refine blk_o (by decide) ?_ | (apply cb;(focus (simp (disch:=(first | omega | (simp;omega))) only [go_sem,w64,List.length_map];try exact rfl));refine cok ?_) | (refine rgT ?_;intro K hK) | (refine dA ?_;intro K hK) | (with_reducible refine hK _ ?_;clear hK K) | (refine stq ?_;simp (disch:=(first | omega | (simp;omega))) only [go_sem,w64,List.length_map]) | refine as1 ?_ | fail)
   refine awp_if (p:=(k:Int)<qs.length) (by simp (disch:=(first | omega | (simp;omega))) only [go_sem,w64]) ?_ ?_ <;> intro hc
   ·have hk2:k<qs.length:=by omega
    have hkt:(k:Int)<(qs.length:Nat)↔True:=iff_of_true hc trivial
    have g0:(qs.map atomDV).getD k (.bool false)=atomDV (ax qs k):=getDAq hk2
    have hl:=szTo_len xs qs k
    have hbt:(szTo xs qs k).length≤16777215↔True:=iff_of_true (by omega) trivial
    repeat' (first | refine sq ?_ | refine stp ?_ | refine blk_o (by decide) ?_ | (apply cb;(focus (simp (disch:=(first | omega | (simp;omega))) only [go_sem,w64,g0,hkt,List.length_map,hbt];try exact rfl));refine cok ?_) | (refine rgT ?_;intro K hK) | (refine dA ?_;intro K hK) | (with_reducible refine hK _ ?_;clear hK K) | (refine stq ?_;simp (disch:=(first | omega | (simp;omega))) only [go_sem,w64,g0,hkt,List.length_map,hbt]) | refine as1 ?_ | fail)
    (first | refine callA (specBindA xs (ax qs k) hn hlen (bind_ok hq h1 hk2).1 (bind_ok hq h1 hk2).2) ?_ | refine callD (specBindA xs (ax qs k) hn hlen (bind_ok hq h1 hk2).1 (bind_ok hq h1 hk2).2) ?_ | refine callE (specBindA xs (ax qs k) hn hlen (bind_ok hq h1 hk2).1 (bind_ok hq h1 hk2).2) ?_ | refine callF (specBindA xs (ax qs k) hn hlen (bind_ok hq h1 hk2).1 (bind_ok hq h1 hk2).2) ?_ ?_)
    repeat' (first | refine sq ?_ | refine stp ?_ | refine blk_o (by decide) ?_ | (apply cb;(focus (simp (disch:=(first | omega | (simp;omega))) only [go_sem,w64,g0,hkt,List.length_map,hbt];try exact rfl));refine cok ?_) | (refine rgT ?_;intro K hK) | (refine dA ?_;intro K hK) | (with_reducible refine hK _ ?_;clear hK K) | (refine stq ?_;simp (disch:=(first | omega | (simp;omega))) only [go_sem,w64,g0,hkt,List.length_map,hbt]) | refine as1 ?_ | fail)
    refine ⟨qs.length - (k+1),_,by omega,?_,k+1,rfl,by omega,rfl⟩
    simp only [szTo,List.map_append,szA,List.map_cons,List.map_nil]
    exact sleA
   ·obtain rfl:k=qs.length:=by omega
    repeat' (first | refine sq ?_ | refine stp ?_ | refine blk_o (by decide) ?_ | (apply cb;(focus (simp (disch:=(first | omega | (simp;omega))) only [go_sem,w64];try exact rfl));refine cok ?_) | (refine rgT ?_;intro K hK) | (refine dA ?_;intro K hK) | (with_reducible refine hK _ ?_;clear hK K) | (refine stq ?_;simp (disch:=(first | omega | (simp;omega))) only [go_sem,w64]) | refine as1 ?_ | fail)
    rw [e,h1]
    refine endG 8 (r:=.tup [.d (whD (szTo xs qs qs.length)),.d (.bool true)]) (h:=by simp (disch:=(first | omega | (simp;omega))) only [go_sem,w64];exact .tup (.cons (.bufw _ _ _ _) (.cons (.refl _) .nil))) ?_
    exact ⟨rfl,rfl⟩
end
end Go.Proofs.Ytlpdbkhekbdceaa
namespace Go.Proofs.Ytlpdbkhekbdceaa
set_option linter.unusedSimpArgs false
set_option linter.unusedVariables false
open Go.RowKit
theorem tables_cxc {C:Nat→Nat→Prop} {fz:Bool} {lo hi:Nat} {w:World} {a:Option Addr} {n c:Nat} {xs:List TableD} (h:TablesA fz lo hi w a n c xs) (hC:∀ b i,lo≤b→b<hi→w.cell? ⟨b,i,none⟩ ≠ none→C b i):CX C w (.sl 3 (xs.map tableDV)) [.slice a n c]:=by
 have hl:=h.len
 by_cases hn:n=0
 ·subst hn
  obtain rfl:xs=[]:=List.eq_nil_of_length_eq_zero hl
  exact ⟨a,0,c,[],rfl,rfl,rfl,rfl,h.2.1,h.2.2.1,h.2.2.2.2,fun _ h=>(by cases h),fun h=>absurd h (Nat.lt_irrefl 0)⟩
 ·obtain ⟨b,off,rfl⟩:=tablesSome h (by omega)
  have hv:∀ i,i<n*3→∃ u,w.cell? ⟨b,off+i,none⟩=some u∧u.oneCell'=true:=fun i hi=>by
   obtain ⟨_,_,_,ra,rn,rc,g1,g2,g3,_⟩:=tablesAt h (show i / 3<n by omega)
   rcases (by omega:i % 3=0∨i % 3=1∨i % 3=2) with e | e | e
   ·exact ⟨.string (tbx xs (i / 3)).nm,by rw [← g1];congr 2;omega,rfl⟩
   ·exact ⟨.int .i64 (tbx xs (i / 3)).ar,by rw [← g2];congr 2;omega,rfl⟩
   ·exact ⟨.slice ra rn rc,by rw [← g3];congr 2;omega,rfl⟩
  have hvs:∀ i u,((List.range (n*3)).map (fun i=>(w.cell? ⟨b,off+i,none⟩).getD undef))[i]? = some u→i<n*3∧w.cell? ⟨b,off+i,none⟩=some u∧u.oneCell'=true:=fun i u hu=>by
   have hi:i<n*3:=by have:=(List.getElem?_eq_some_iff.1 hu).1;simpa using this
   obtain ⟨x,hx,h1⟩:=hv i hi
   rw [List.getElem?_map,List.getElem?_range hi,Option.map_some,hx] at hu
   cases hu
   exact ⟨hi,hx,h1⟩
  refine ⟨_,n,c,(List.range (n*3)).map (fun i=>(w.cell? ⟨b,off+i,none⟩).getD undef),rfl,by simpa using hl,CXk.mk (by simp [hl]) fun i x hx=>?_,by simp,h.2.1,h.2.2.1,h.2.2.2.2,fun u hu=>?_,fun _=>⟨b,off,rfl,fun i u hu=>?_⟩⟩
  ·rw [List.getElem?_map] at hx
   have hi:i<xs.length:=by
    cases e:xs[i]? with
    | none=>rw [e] at hx;cases hx
    | some y=>exact (List.getElem?_eq_some_iff.1 e).1
   rw [List.getElem?_eq_getElem hi,Option.map_some,← tbx_lt hi] at hx
   cases hx
   obtain ⟨hb1,hb2,hsz,ra,rn,rc,g1,g2,g3,g4,_⟩:=tablesAt h (show i<n by omega)
   have e:(((List.range (n*3)).map (fun i=>(w.cell? ⟨b,off+i,none⟩).getD undef)).drop (i*3)).take 3=[.string (tbx xs i).nm,.int .i64 (tbx xs i).ar,.slice ra rn rc]:=by
    apply List.ext_getElem?
    intro j
    rw [List.getElem?_take]
    split
    ·rename_i hj
     rw [List.getElem?_drop,List.getElem?_map,List.getElem?_range (by omega),Option.map_some]
     rcases (by omega:j=0∨j=1∨j=2) with rfl | rfl | rfl
     ·simp [g1]
     ·rw [show off+(i*3+1)=off+i*3+1 by omega,g2];rfl
     ·rw [show off+(i*3+2)=off+i*3+2 by omega,g3];rfl
    ·rename_i hj
     rw [List.getElem?_eq_none (by simp;omega)]
   rw [e]
   exact ⟨[.string (tbx xs i).nm],_,rfl,rfl,[.int .i64 (tbx xs i).ar],_,rfl,⟨rfl,g4.1⟩,[.slice ra rn rc],[],rfl,rows_cxc g4.2 hC,rfl⟩
  ·obtain ⟨i,hi,rfl⟩:=List.mem_iff_getElem.1 hu
   exact (hvs i _ (List.getElem?_eq_getElem hi)).2.2
  ·obtain ⟨h1,h2,_⟩:=hvs i u hu
   obtain ⟨hb1,hb2,_⟩:=tablesAt h (show i / 3<n by omega)
   exact ⟨hC _ _ hb1 hb2 (by rw [h2];exact fun x=>(by cases x)),h2⟩
theorem nmT_of {fz:Bool} {lo hi:Nat} {w:World} {a:Option Addr} {n c:Nat} {xs:List TableD} (h:TablesA fz lo hi w a n c xs):NmT xs:=by
 intro x hx
 obtain ⟨i,hi,rfl⟩:=List.mem_iff_getElem.1 hx
 have hl:=h.len
 obtain ⟨b,off,rfl⟩:=tablesSome h (by omega)
 have:=(tablesAt h (show i<n by omega)).2.2.1
 rwa [tbx_lt hi] at this
theorem db_cv {fz:Bool} {lo hi lo':Nat} {w:World} {a:Option Addr} {n c:Nat} {xs:List TableD} (h:TablesA fz lo hi w a n c xs) (hl:lo'≤lo) (hh:hi≤w.heap.size) (G:Gh) (hG:G.C=cellsC lo' w):CV G w (.d (dbD xs)) (dbV a n c) :=
 cvAgg.2 ⟨[.slice a n c],⟨[.slice a n c],[],rfl,tables_cxc h (fun b i h1 h2 h3=>by rw [hG];exact ⟨by omega,by omega,h3⟩),rfl⟩,rfl⟩
theorem cx_whI {C:Nat→Nat→Prop} {lo:Nat} {w:World} {xs:List Int} {us:List Value} (hT:∀ b,Tag C b→lo≤b) (hC:∀ b i,C b i→b<w.heap.size) (hf:∀ b i,C b i→lo≤b→w.frozen? ⟨b,i,none⟩=false) (h:CX C w (whD xs) us) :
 ∃ a n c,us=[.slice a n c]∧IntsA true lo w.heap.size w a n c xs:=by
 obtain ⟨a,n,c,rs,rfl,e2,e3,⟨f1,f2,f3,f4,f5,f6⟩,f7⟩:=h
 simp only [List.length_map] at e2
 obtain ⟨k1,k2⟩:=CXk.singles.1 e3
 simp only [List.length_map] at k1
 have hx:∀ j,j<n→rs[j]? = some (.int .i64 (ix xs j))∧I64 (ix xs j):=fun j hj=>by
  obtain ⟨u,hu,e,hI⟩:=k2 j (.int (ix xs j)) (by rw [List.getElem?_map,ix_lt (by omega)];simp [show j<xs.length by omega])
  simp only [List.cons.injEq,and_true] at e
  subst e
  exact ⟨hu,hI⟩
 have hI64:∀ x∈xs,I64 x:=fun x hx'=>by
  obtain ⟨j,hj,rfl⟩:=List.mem_iff_getElem.1 hx'
  have:=(hx j (by omega)).2
  rwa [ix_lt hj] at this
 refine ⟨a,n,c,rfl,e2,f2,f3,hI64,fun hn=>?_,f4⟩
 obtain ⟨b,off,ha,hc⟩:=f6 hn
 obtain ⟨b',ha',htag⟩:=f7 hn
 rw [ha] at ha'
 simp only [Option.some.injEq,Addr.mk.injEq,and_true] at ha'
 obtain ⟨rfl,rfl⟩:=ha'
 have hlo:=hT b htag
 have c0:=hc 0 _ (hx 0 hn).1
 refine ⟨b,0,ha,hlo,hC b _ c0.1,fun i hi=>?_⟩
 have ci:=hc i _ (hx i hi).1
 exact ⟨ci.2,fun _=>hf b _ ci.1 hlo⟩
def GvIlB (w:World) (xs:List Int) (ok:Bool) (e:Ending) (w':World):Prop:=∃ a n c,e=.returned (.tuple #[.slice a n c,.bool ok])∧IntsA true w.heap.size w'.heap.size w' a n c xs∧Below w.heap.size w w'
section
variable {fz fz':Bool} {lo hi lo' hi':Nat} {w:World} {a:Option Addr} {n c:Nat} {xs:List TableD} {nv:Int} {qa:Option Addr} {qn qc:Nat} {qs:List AtomD} {ua:Option Addr} {un uc:Nat} {us:List Int}
theorem sizes_own {f:FuncId} {l:List Int} {ok:Bool} (hA:AFn f [.d (dbD xs),.d (queryD nv qs us)] [] (fun r os=>r=.tup [.d (whD l),.d (.bool ok)]∧os=[])) (hI:TablesA fz lo hi w a n c xs) (hh:hi≤w.heap.size) (hJ:QueryA fz' lo' hi' w nv qa qn qc qs ua un uc us) (hh':hi'≤w.heap.size) :
 Calls Try.prog f #[dbV a n c,queryV nv qa qn qc ua un uc] w (GvIlB w l ok):=by
 refine (afn_calls hA (C0:=cellsC 0 w) (fun b i h=>h.2.1) (vs:=[dbV a n c,queryV nv qa qn qc ua un uc]) (fun G hG=>⟨_,_,rfl,db_cv hI (Nat.zero_le _) hh G hG,_,_,rfl,query_cvs hJ hh' (Nat.zero_le _) G hG,rfl⟩)).mono ?_
 rintro e w' ⟨v,G',rfl,⟨vs,rfl,v1,us,rfl,h1,v2,us2,rfl,h2,rfl⟩,hb,hcs,hlc,huf⟩
 obtain rfl:=cvBool.1 h2
 have hT:∀ b,Tag G'.C b→w.heap.size≤b:=fun b ⟨N,ht⟩=>by
  by_cases h:b<w.heap.size
  ·exact absurd ⟨N,fun i hi=>hlc b i (ht i hi) h⟩ (no_tag (lo:=0) (w:=w) (b:=b))
  ·omega
 obtain ⟨a',n',c',e1,hR⟩:=cx_whI hT hcs huf (cvWh.1 h1)
 simp only [List.cons.injEq,and_true] at e1
 subst e1
 exact ⟨a',n',c',rfl,hR,hb⟩
theorem nm_ofQ (hJ:QueryA fz' lo' hi' w nv qa qn qc qs ua un uc us):NmOK qs:=nm_of hJ.2.1
theorem db_len (h:tabsSz xs≤1048576):xs.length≤1048576:=by unfold tabsSz at h;omega
end
theorem eqK_IntL {fz fz':Bool} {lo hi lo' hi':Nat} (a a':Option Addr) (n c n' c':Nat) (xs:List Int) (w:World) (hI:IntsA fz lo hi w a n c xs) (_:hi≤w.heap.size) (hJ:IntsA fz' lo' hi' w a' n' c' xs) (_:hi'≤w.heap.size) :
 Calls Try.prog 10 #[.slice a n c,.slice a' n' c'] w (Leaves w (.bool true)):=(eqK_Ints a a' n c n' c' xs w hI hJ).mono fun _ _ h=>h.leaves
def GvMarkIl (lo hi:Nat) (w:World) (k:Int) (a:Option Addr) (n c:Nat) (xs:List Int) (e:Ending) (w':World):Prop:=e=.returned (.int .i64 (k+(xs.length:Nat)))∧MarkedG lo hi w w'∧IntsA true lo hi w' a n c (marks k xs.length)
theorem resK_IntL {lo hi:Nat} (a:Option Addr) (n c:Nat) (xs:List Int) (k:Int) (w:World) (hI:IntsA true lo hi w a n c xs) (_:hi≤w.heap.size) (h0:0≤k) (h1:k≤1048576) (hs:xs.length≤1048576) :
 Calls Try.prog 15 #[.slice a n c,.int .i64 k] w (GvMarkIl lo hi w k a n c xs):=resK_Ints a n c xs k w hI h0 (by omega) hs
theorem heldK_IntL {fz:Bool} {lo hi:Nat} (a:Option Addr) (n c:Nat) (xs:List Int) (k:Int) (w:World) (hI:IntsA fz lo hi w a n c (marks k xs.length)) (_:hi≤w.heap.size) (h0:0≤k) (h1:k≤1048576) (hs:xs.length≤1048576) :
 Calls Try.prog 16 #[.slice a n c,.int .i64 k] w (Leaves w (.int .i64 (k+(xs.length:Nat)))):=(heldK_Ints a n c xs.length k w hI h0 (by omega) hs).mono fun _ _ h=>h.leaves
end Go.Proofs.Ytlpdbkhekbdceaa
