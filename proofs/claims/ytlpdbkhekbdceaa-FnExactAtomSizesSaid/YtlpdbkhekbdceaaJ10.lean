/- Lemmas for the proof of FnExactAtomSizes, part 11 of 19: no condition of their own. -/
import Derived.Test.YtlpdbkhekbdceaaJ9
import Derived.Test.YtlpdbkhekbdceaaJ1
import Derived.Deep.RegionLaw
import Derived.Deep.AppendLies
import Derived.Test.YtlpdbkhekbdceaaJ2
namespace Go.Proofs.Ytlpdbkhekbdceaa
set_option linter.unusedSimpArgs false
set_option linter.unusedVariables false
attribute [local go_sem ↓] reduceIte
attribute [local go_sem] Nat.reduceEqDiff Nat.reduceLT Nat.reduceAdd Nat.reduceLeDiff Nat.reduceMul Nat.reduceBEq Nat.reduceSub reduceCtorEq Int.reduceLE Int.reduceNeg Int.reduceLT
open Go.RowKit
theorem rx_last (o:List (List Int)) (z:List Int):rx (o ++ [z]) o.length=z:=by simp [rx]
theorem l5CopyA (ar:Int) (l:List (List Int)) (hl:l.length≤1048576) (hr:∀ x∈l,x.length≤1048576):AFn 54 [.d (relD ar l)] [] (fun r os=>r=.d (relD ar l)∧os=[]):=by
 refine afn_of (rv:=[.cell 2 53]) tyT_ok Try.func54 rfl (by decide +kernel) Try.ntmps54 rfl (by simp) ?_
 repeat' (first | refine sq ?_ | refine stp ?_ | refine blk_o (by decide) ?_ | (apply cb;(focus (simp (disch:=(first | omega | (simp;omega))) only [go_sem,w64,rowsD];try exact rfl));refine cok ?_) | (refine rgW ?_;intro K hK) | (refine dA ?_;intro K hK) | (with_reducible refine hK _ ?_;clear hK K) | (refine stq ?_;simp (disch:=(first | omega | (simp;omega))) only [go_sem,w64,rowsD]) | refine as1 ?_ | fail)
 refine awp_loopw (fun m s=>∃ (k:Nat) (av:AV),m=l.length - k∧k≤l.length∧((k=0∧av=.nil)∨(0<k∧av=.buf 25 26 1 ((l.take k).map intsD)))∧s=mkS [(1,.ptr 1 0),(2,.ptr 2 0),(3,.ptr 3 0),(4,.d (.int (k:Nat)))] [(1,[.d (.int ar),.d (rowsD l)]),(2,[.d (.int 0),.nil]),(3,[.d (.int ar),av])]) ?_ ?_
 ·refine ⟨_,_,?_,0,.nil,rfl,Nat.zero_le _,.inl ⟨rfl,rfl⟩,rfl⟩
  exact sleA
 ·rintro m s ⟨k,av,rfl,hk,hav,rfl⟩
  repeat' (first | refine sq ?_ | refine stp ?_ | refine blk_o (by decide) ?_ | (apply cb;(focus (simp (disch:=(first | omega | (simp;omega))) only [go_sem,w64,rowsD];try exact rfl));refine cok ?_) | (refine rgT ?_;intro K hK) | (refine dA ?_;intro K hK) | (with_reducible refine hK _ ?_;clear hK K) | (refine stq ?_;simp (disch:=(first | omega | (simp;omega))) only [go_sem,w64,rowsD]) | refine as1 ?_ | fail)
  refine awp_if (p:=(k:Int)<l.length) (by simp (disch:=(first | omega | (simp;omega))) only [go_sem,w64]) ?_ ?_ <;> intro hc1
  ·have hk2:k<l.length:=by omega
   have g0:(l.map intsD).getD k (.bool false)=intsD (rx l k):=getDR hk2
   have hm:rx l k∈l:=by rw [rx_lt hk2];exact List.getElem_mem _
   have hb0:(rx l k).length≤16777215:=by have:=hr _ hm;omega
   rcases hav with ⟨rfl,rfl⟩ | ⟨hk0,rfl⟩
   ·repeat' (first | refine sq ?_ | refine stp ?_ | refine blk_o (by decide) ?_ | (apply cb;(focus (simp (disch:=(first | omega | (simp;omega))) only [go_sem,w64,rowsD,g0];try exact rfl));refine cok ?_) | (refine rgT ?_;intro K hK) | (refine dA ?_;intro K hK) | (with_reducible refine hK _ ?_;clear hK K) | (refine stq ?_;simp (disch:=(first | omega | (simp;omega))) only [go_sem,w64,rowsD,g0]) | refine as1 ?_ | fail)
    refine ⟨l.length - (0+1),_,by omega,?_,0+1,_,rfl,by omega,.inr ⟨by omega,rfl⟩,rfl⟩
    rw [rx_take hk2,map_snoc]
    exact sleA
   ·have hb:((l.take k).map intsD).length≤16777215:=by simp;omega
    repeat' (first | refine sq ?_ | refine stp ?_ | refine blk_o (by decide) ?_ | (apply cb;(focus (simp (disch:=(first | omega | (simp;omega))) only [go_sem,w64,rowsD,g0];try exact rfl));refine cok ?_) | (refine rgT ?_;intro K hK) | (refine dA ?_;intro K hK) | (with_reducible refine hK _ ?_;clear hK K) | (refine stq ?_;simp (disch:=(first | omega | (simp;omega))) only [go_sem,w64,rowsD,g0]) | refine as1 ?_ | fail)
    refine ⟨l.length - (k+1),_,by omega,?_,k+1,_,rfl,by omega,.inr ⟨by omega,rfl⟩,rfl⟩
    rw [rx_take hk2,map_snoc]
    exact sleA
  ·obtain rfl:k=l.length:=by omega
   rcases hav with ⟨h0,rfl⟩ | ⟨hk0,rfl⟩
   ·obtain rfl:=List.eq_nil_of_length_eq_zero h0
    repeat' (first | refine sq ?_ | refine stp ?_ | refine blk_o (by decide) ?_ | (apply cb;(focus (simp (disch:=(first | omega | (simp;omega))) only [go_sem,w64];try exact rfl));refine cok ?_) | (refine rgT ?_;intro K hK) | (refine dA ?_;intro K hK) | (with_reducible refine hK _ ?_;clear hK K) | (refine stq ?_;simp (disch:=(first | omega | (simp;omega))) only [go_sem,w64]) | refine as1 ?_ | fail)
    (refine endA (r:=.d (.agg [.int ar,.sl 1 []])) ?_)
    exact ⟨rfl,rfl⟩
   ·rw [List.take_length]
    repeat' (first | refine sq ?_ | refine stp ?_ | refine blk_o (by decide) ?_ | (apply cb;(focus (simp (disch:=(first | omega | (simp;omega))) only [go_sem,w64];try exact rfl));refine cok ?_) | (refine rgT ?_;intro K hK) | (refine dA ?_;intro K hK) | (with_reducible refine hK _ ?_;clear hK K) | (refine stq ?_;simp (disch:=(first | omega | (simp;omega))) only [go_sem,w64]) | refine as1 ?_ | fail)
    (refine endA (r:=.d (relD ar l)) ?_)
    exact ⟨rfl,rfl⟩
end Go.Proofs.Ytlpdbkhekbdceaa
namespace Go.Proofs.Ytlpdbkhekbdceaa
set_option linter.unusedSimpArgs false
set_option linter.unusedVariables false
attribute [local go_sem ↓] reduceIte
attribute [local go_sem] Nat.reduceEqDiff Nat.reduceLT Nat.reduceAdd Nat.reduceLeDiff Nat.reduceMul Nat.reduceBEq Nat.reduceSub reduceCtorEq Int.reduceLE Int.reduceNeg Int.reduceLT
open Go.RowKit
set_option maxHeartbeats 4000000 in
theorem l5SortA (q:Nat) (hq:q≤1048576):∀ (N:Nat) (l:List (List Int)),l.length≤N→l.length≤1048576→SameL q l→AFn 60 [.d (rowsD l)] [] (fun r os=>r=.d (rowsD (srt l))∧os=[]):=by
 intro N
 induction N with
 | zero =>
  intro l hN hl hs
  have h0:((l.length:Nat):Int)<2↔True:=iff_of_true (by omega) trivial
  refine afn_of (rv:=[.tmp 2]) tyT_ok Try.func60 rfl (by decide +kernel) Try.ntmps60 rfl (by simp) ?_
  repeat' (first | refine sq ?_ | refine stp ?_ | refine blk_o (by decide) ?_ | (apply cb;(focus (simp (disch:=(first | omega | (simp;omega))) only [go_sem,w64,rowsD,h0];try exact rfl));refine cok ?_) | (refine rgT ?_;intro K hK) | (refine dA ?_;intro K hK) | (with_reducible refine hK _ ?_;clear hK K) | (refine stq ?_;simp (disch:=(first | omega | (simp;omega))) only [go_sem,w64,rowsD,h0]) | refine as1 ?_ | fail)
  rw [srt_small (by omega:l.length<2)]
  (refine endA (r:=.d (rowsD l)) ?_)
  exact ⟨rfl,rfl⟩
 | succ N ih =>
  intro l hN hl hs
  by_cases h2:l.length<2
  ·have h0:((l.length:Nat):Int)<2↔True:=iff_of_true (by omega) trivial
   refine afn_of (rv:=[.tmp 2]) tyT_ok Try.func60 rfl (by decide +kernel) Try.ntmps60 rfl (by simp) ?_
   repeat' (first | refine sq ?_ | refine stp ?_ | refine blk_o (by decide) ?_ | (apply cb;(focus (simp (disch:=(first | omega | (simp;omega))) only [go_sem,w64,rowsD,h0];try exact rfl));refine cok ?_) | (refine rgT ?_;intro K hK) | (refine dA ?_;intro K hK) | (with_reducible refine hK _ ?_;clear hK K) | (refine stq ?_;simp (disch:=(first | omega | (simp;omega))) only [go_sem,w64,rowsD,h0]) | refine as1 ?_ | fail)
   rw [srt_small h2]
   (refine endA (r:=.d (rowsD l)) ?_)
   exact ⟨rfl,rfl⟩
  ·have h0:((l.length:Nat):Int)<2↔False:=iff_of_false (by omega) id
   obtain ⟨m,hm⟩:∃ m,m=l.length / 2:=⟨_,rfl⟩
   have hw:IntKind.i64.wrap (((l.length:Nat):Int).tdiv 2)=(m:Nat):=by rw [tdiv_w (by omega)];omega
   have hc1:=ih (l.take m) (by simp;omega) (by simp;omega) (fun x hx=>hs x (List.mem_of_mem_take hx))
   have hc2:=ih (l.drop m) (by simp;omega) (by simp;omega) (fun x hx=>hs x (List.mem_of_mem_drop hx))
   refine afn_of (rv:=[.tmp 2]) tyT_ok Try.func60 rfl (by decide +kernel) Try.ntmps60 rfl (by simp) ?_
   repeat' (first | refine sq ?_ | refine stp ?_ | refine blk_o (by decide) ?_ | (apply cb;(focus (simp (disch:=(first | omega | (simp;omega))) only [go_sem,w64,rowsD,h0,hw,Int.toNat_zero,← List.map_take,← List.map_drop];try exact rfl));refine cok ?_) | (refine rgT ?_;intro K hK) | (refine dA ?_;intro K hK) | (with_reducible refine hK _ ?_;clear hK K) | (refine stq ?_;simp (disch:=(first | omega | (simp;omega))) only [go_sem,w64,rowsD,h0,hw,Int.toNat_zero,← List.map_take,← List.map_drop]) | refine as1 ?_ | fail)
   (first | refine callA (hc1) ?_ | refine callD (hc1) ?_ | refine callE (hc1) ?_ | refine callF (hc1) ?_ ?_)
   repeat' (first | refine sq ?_ | refine stp ?_ | refine blk_o (by decide) ?_ | (apply cb;(focus (simp (disch:=(first | omega | (simp;omega))) only [go_sem,w64,rowsD,h0,hw,Int.toNat_zero,← List.map_take,← List.map_drop,List.take_length];try exact rfl));refine cok ?_) | (refine rgT ?_;intro K hK) | (refine dA ?_;intro K hK) | (with_reducible refine hK _ ?_;clear hK K) | (refine stq ?_;simp (disch:=(first | omega | (simp;omega))) only [go_sem,w64,rowsD,h0,hw,Int.toNat_zero,← List.map_take,← List.map_drop,List.take_length]) | refine as1 ?_ | fail)
   (first | refine callA (hc2) ?_ | refine callD (hc2) ?_ | refine callE (hc2) ?_ | refine callF (hc2) ?_ ?_)
   repeat' (first | refine sq ?_ | refine stp ?_ | refine blk_o (by decide) ?_ | (apply cb;(focus (simp (disch:=(first | omega | (simp;omega))) only [go_sem,w64,rowsD,h0,hw,Int.toNat_zero,← List.map_take,← List.map_drop,List.take_length];try exact rfl));refine cok ?_) | (refine rgT ?_;intro K hK) | (refine dA ?_;intro K hK) | (with_reducible refine hK _ ?_;clear hK K) | (refine stq ?_;simp (disch:=(first | omega | (simp;omega))) only [go_sem,w64,rowsD,h0,hw,Int.toNat_zero,← List.map_take,← List.map_drop,List.take_length]) | refine as1 ?_ | fail)
   refine awp_loopw (fun mm s=>∃ (a b out:List (List Int)),mm=a.length+b.length∧Mrg2 q l a b out∧s=mkS [(4,.d (rowsD a)),(5,.d (rowsD b)),(6,.buf 24 26 1 (out.map intsD))] []) ?_ ?_
   ·refine ⟨_,_,?_,_,_,[],rfl,Mrg2.start hs m,rfl⟩
    exact sleA
   ·rintro mm s ⟨a,b,out,rfl,hM,rfl⟩
    have hlo:=hM.len
    cases a with
    | nil =>
     cases b with
     | nil =>
      have e:=hM.fin
      repeat' (first | refine sq ?_ | refine stp ?_ | refine blk_o (by decide) ?_ | (apply cb;(focus (simp (disch:=(first | omega | (simp;omega))) only [go_sem,w64,nz0];try exact rfl));refine cok ?_) | (refine rgT ?_;intro K hK) | (refine dA ?_;intro K hK) | (with_reducible refine hK _ ?_;clear hK K) | (refine stq ?_;simp (disch:=(first | omega | (simp;omega))) only [go_sem,w64,nz0]) | refine as1 ?_ | fail)
      rw [e]
      (refine endA (r:=.d (rowsD out)) ?_)
      exact ⟨rfl,rfl⟩
     | cons y b =>
      simp only [List.length_cons] at hlo
      have q1:(0:Int)<((b.length+1:Nat):Int)↔True:=iff_of_true (by omega) trivial
      have ho:(out.map intsD).length≤16777215:=by simp;omega
      rcases List.eq_nil_or_concat out with rfl | ⟨o,z,rfl⟩
      ·repeat' (first | refine sq ?_ | refine stp ?_ | refine blk_o (by decide) ?_ | (apply cb;(focus (simp (disch:=(first | omega | (simp;omega))) only [go_sem,w64,nz0,← List.map_take,List.take_length,Int.toNat_zero,Int.toNat_one,List.length_map,q1,intsD];try exact rfl));refine cok ?_) | (refine rgT ?_;intro K hK) | (refine dA ?_;intro K hK) | (with_reducible refine hK _ ?_;clear hK K) | (refine stq ?_;simp (disch:=(first | omega | (simp;omega))) only [go_sem,w64,nz0,← List.map_take,List.take_length,Int.toNat_zero,Int.toNat_one,List.length_map,q1,intsD]) | refine as1 ?_ | fail)
       refine ⟨b.length,_,by simp only [List.length_cons,List.length_nil];omega,?_,[],b,[] ++ [y],by simp only [List.length_cons,List.length_nil];try omega,(hM.swap.left (fun _ h=>by cases h) (by simp)).swap,rfl⟩
       (refine sle_mk ?_ ?_ <;> simp (disch:=(first | omega | (simp;omega))) only [go_sem,w64,nz0,← List.map_take,List.take_length,Int.toNat_zero,Int.toNat_one,List.length_map,q1,intsD] <;> exact leafs)
      ·rw [List.concat_eq_append] at hM ho hlo ⊢
       simp only [List.length_append,List.length_cons,List.length_nil] at hlo
       have z1:(((o ++ [z]).length:Nat):Int)=0↔False:=iff_of_false (by simp only [List.length_append,List.length_cons,List.length_nil];omega) id
       have z2:IntKind.i64.wrap ((((o ++ [z]).length:Nat):Int) - 1)=((o.length:Nat):Int):=by rw [w64 (by simp only [List.length_append,List.length_cons,List.length_nil];omega)];simp only [List.length_append,List.length_cons,List.length_nil];omega
       have z3:((o ++ [z]).map intsD).getD o.length (.bool false)=intsD z:=by rw [getDR (by simp),rx_last]
       have z4:((o.length:Nat):Int)<(((o ++ [z]).length:Nat):Int)↔True:=iff_of_true (by simp only [List.length_append,List.length_cons,List.length_nil];omega) trivial
       repeat' (first | refine sq ?_ | refine stp ?_ | refine blk_o (by decide) ?_ | (apply cb;(focus (simp (disch:=(first | omega | (simp;omega))) only [go_sem,w64,nz0,← List.map_take,List.take_length,Int.toNat_zero,Int.toNat_one,List.length_map,q1,z1,z2,z3,z4];try exact rfl));refine cok ?_) | (refine rgT ?_;intro K hK) | (refine dA ?_;intro K hK) | (with_reducible refine hK _ ?_;clear hK K) | (refine stq ?_;simp (disch:=(first | omega | (simp;omega))) only [go_sem,w64,nz0,← List.map_take,List.take_length,Int.toNat_zero,Int.toNat_one,List.length_map,q1,z1,z2,z3,z4]) | refine as1 ?_ | fail)
       (first | refine callA (specCmpRA z y) ?_ | refine callD (specCmpRA z y) ?_ | refine callE (specCmpRA z y) ?_ | refine callF (specCmpRA z y) ?_ ?_)
       by_cases hz:cmpR z y=0
       ·have hzt:cmpR z y=0↔True:=iff_of_true hz trivial
        repeat' (first | refine sq ?_ | refine stp ?_ | refine blk_o (by decide) ?_ | (apply cb;(focus (simp (disch:=(first | omega | (simp;omega))) only [go_sem,w64,nz0,← List.map_take,List.take_length,Int.toNat_zero,Int.toNat_one,List.length_map,q1,z1,z2,z3,z4,hzt];try exact rfl));refine cok ?_) | (refine rgT ?_;intro K hK) | (refine dA ?_;intro K hK) | (with_reducible refine hK _ ?_;clear hK K) | (refine stq ?_;simp (disch:=(first | omega | (simp;omega))) only [go_sem,w64,nz0,← List.map_take,List.take_length,Int.toNat_zero,Int.toNat_one,List.length_map,q1,z1,z2,z3,z4,hzt]) | refine as1 ?_ | fail)
        obtain rfl:=cmpR_zero.1 hz
        refine ⟨b.length,_,by simp only [List.length_cons,List.length_nil];omega,?_,[],b,o ++ [z],by simp only [List.length_cons,List.length_nil];try omega,(hM.swap.skip (by simp)).swap,rfl⟩
        (refine sle_mk ?_ ?_ <;> simp (disch:=(first | omega | (simp;omega))) only [go_sem,w64,nz0,← List.map_take,List.take_length,Int.toNat_zero,Int.toNat_one,List.length_map,q1] <;> exact leafs)
       ·have hzt:cmpR z y=0↔False:=iff_of_false hz id
        repeat' (first | refine sq ?_ | refine stp ?_ | refine blk_o (by decide) ?_ | (apply cb;(focus (simp (disch:=(first | omega | (simp;omega))) only [go_sem,w64,nz0,← List.map_take,List.take_length,Int.toNat_zero,Int.toNat_one,List.length_map,q1,z1,z2,z3,z4,hzt];try exact rfl));refine cok ?_) | (refine rgT ?_;intro K hK) | (refine dA ?_;intro K hK) | (with_reducible refine hK _ ?_;clear hK K) | (refine stq ?_;simp (disch:=(first | omega | (simp;omega))) only [go_sem,w64,nz0,← List.map_take,List.take_length,Int.toNat_zero,Int.toNat_one,List.length_map,q1,z1,z2,z3,z4,hzt]) | refine as1 ?_ | fail)
        refine ⟨b.length,_,by simp only [List.length_cons,List.length_nil];omega,?_,[],b,(o ++ [z]) ++ [y],by simp only [List.length_cons,List.length_nil];try omega,(hM.swap.left (fun _ h=>by cases h) (hM.swap.less hz)).swap,rfl⟩
        rw [map_snoc intsD (o ++ [z])]
        (refine sle_mk ?_ ?_ <;> simp (disch:=(first | omega | (simp;omega))) only [go_sem,w64,nz0,← List.map_take,List.take_length,Int.toNat_zero,Int.toNat_one,List.length_map,q1,intsD] <;> exact leafs)
    | cons x a =>
     simp only [List.length_cons] at hlo
     have q1:(0:Int)<((a.length+1:Nat):Int)↔True:=iff_of_true (by omega) trivial
     have q2:((a.length+1:Nat):Int)=0↔False:=iff_of_false (by omega) id
     cases b with
     | nil =>
      have ho:(out.map intsD).length≤16777215:=by simp;omega
      rcases List.eq_nil_or_concat out with rfl | ⟨o,z,rfl⟩
      ·repeat' (first | refine sq ?_ | refine stp ?_ | refine blk_o (by decide) ?_ | (apply cb;(focus (simp (disch:=(first | omega | (simp;omega))) only [go_sem,w64,nz0,← List.map_take,List.take_length,Int.toNat_zero,Int.toNat_one,List.length_map,q1,q2,intsD];try exact rfl));refine cok ?_) | (refine rgT ?_;intro K hK) | (refine dA ?_;intro K hK) | (with_reducible refine hK _ ?_;clear hK K) | (refine stq ?_;simp (disch:=(first | omega | (simp;omega))) only [go_sem,w64,nz0,← List.map_take,List.take_length,Int.toNat_zero,Int.toNat_one,List.length_map,q1,q2,intsD]) | refine as1 ?_ | fail)
       refine ⟨a.length,_,by simp only [List.length_cons,List.length_nil];omega,?_,a,[],[] ++ [x],by simp only [List.length_cons,List.length_nil];try omega,(hM.left (fun _ h=>by cases h) (by simp)),rfl⟩
       (refine sle_mk ?_ ?_ <;> simp (disch:=(first | omega | (simp;omega))) only [go_sem,w64,nz0,← List.map_take,List.take_length,Int.toNat_zero,Int.toNat_one,List.length_map,q1,q2,intsD] <;> exact leafs)
      ·rw [List.concat_eq_append] at hM ho hlo ⊢
       simp only [List.length_append,List.length_cons,List.length_nil] at hlo
       have z1:(((o ++ [z]).length:Nat):Int)=0↔False:=iff_of_false (by simp only [List.length_append,List.length_cons,List.length_nil];omega) id
       have z2:IntKind.i64.wrap ((((o ++ [z]).length:Nat):Int) - 1)=((o.length:Nat):Int):=by rw [w64 (by simp only [List.length_append,List.length_cons,List.length_nil];omega)];simp only [List.length_append,List.length_cons,List.length_nil];omega
       have z3:((o ++ [z]).map intsD).getD o.length (.bool false)=intsD z:=by rw [getDR (by simp),rx_last]
       have z4:((o.length:Nat):Int)<(((o ++ [z]).length:Nat):Int)↔True:=iff_of_true (by simp only [List.length_append,List.length_cons,List.length_nil];omega) trivial
       repeat' (first | refine sq ?_ | refine stp ?_ | refine blk_o (by decide) ?_ | (apply cb;(focus (simp (disch:=(first | omega | (simp;omega))) only [go_sem,w64,nz0,← List.map_take,List.take_length,Int.toNat_zero,Int.toNat_one,List.length_map,q1,q2,z1,z2,z3,z4];try exact rfl));refine cok ?_) | (refine rgT ?_;intro K hK) | (refine dA ?_;intro K hK) | (with_reducible refine hK _ ?_;clear hK K) | (refine stq ?_;simp (disch:=(first | omega | (simp;omega))) only [go_sem,w64,nz0,← List.map_take,List.take_length,Int.toNat_zero,Int.toNat_one,List.length_map,q1,q2,z1,z2,z3,z4]) | refine as1 ?_ | fail)
       (first | refine callA (specCmpRA z x) ?_ | refine callD (specCmpRA z x) ?_ | refine callE (specCmpRA z x) ?_ | refine callF (specCmpRA z x) ?_ ?_)
       by_cases hz:cmpR z x=0
       ·have hzt:cmpR z x=0↔True:=iff_of_true hz trivial
        repeat' (first | refine sq ?_ | refine stp ?_ | refine blk_o (by decide) ?_ | (apply cb;(focus (simp (disch:=(first | omega | (simp;omega))) only [go_sem,w64,nz0,← List.map_take,List.take_length,Int.toNat_zero,Int.toNat_one,List.length_map,q1,q2,z1,z2,z3,z4,hzt];try exact rfl));refine cok ?_) | (refine rgT ?_;intro K hK) | (refine dA ?_;intro K hK) | (with_reducible refine hK _ ?_;clear hK K) | (refine stq ?_;simp (disch:=(first | omega | (simp;omega))) only [go_sem,w64,nz0,← List.map_take,List.take_length,Int.toNat_zero,Int.toNat_one,List.length_map,q1,q2,z1,z2,z3,z4,hzt]) | refine as1 ?_ | fail)
        obtain rfl:=cmpR_zero.1 hz
        refine ⟨a.length,_,by simp only [List.length_cons,List.length_nil];omega,?_,a,[],o ++ [z],by simp only [List.length_cons,List.length_nil];try omega,(hM.skip (by simp)),rfl⟩
        (refine sle_mk ?_ ?_ <;> simp (disch:=(first | omega | (simp;omega))) only [go_sem,w64,nz0,← List.map_take,List.take_length,Int.toNat_zero,Int.toNat_one,List.length_map,q1,q2] <;> exact leafs)
       ·have hzt:cmpR z x=0↔False:=iff_of_false hz id
        repeat' (first | refine sq ?_ | refine stp ?_ | refine blk_o (by decide) ?_ | (apply cb;(focus (simp (disch:=(first | omega | (simp;omega))) only [go_sem,w64,nz0,← List.map_take,List.take_length,Int.toNat_zero,Int.toNat_one,List.length_map,q1,q2,z1,z2,z3,z4,hzt];try exact rfl));refine cok ?_) | (refine rgT ?_;intro K hK) | (refine dA ?_;intro K hK) | (with_reducible refine hK _ ?_;clear hK K) | (refine stq ?_;simp (disch:=(first | omega | (simp;omega))) only [go_sem,w64,nz0,← List.map_take,List.take_length,Int.toNat_zero,Int.toNat_one,List.length_map,q1,q2,z1,z2,z3,z4,hzt]) | refine as1 ?_ | fail)
        refine ⟨a.length,_,by simp only [List.length_cons,List.length_nil];omega,?_,a,[],(o ++ [z]) ++ [x],by simp only [List.length_cons,List.length_nil];try omega,(hM.left (fun _ h=>by cases h) (hM.less hz)),rfl⟩
        rw [map_snoc intsD (o ++ [z])]
        (refine sle_mk ?_ ?_ <;> simp (disch:=(first | omega | (simp;omega))) only [go_sem,w64,nz0,← List.map_take,List.take_length,Int.toNat_zero,Int.toNat_one,List.length_map,q1,q2,intsD] <;> exact leafs)
     | cons y b =>
      simp only [List.length_cons] at hlo
      have q3:(0:Int)<((b.length+1:Nat):Int)↔True:=iff_of_true (by omega) trivial
      have hrng:=cmpR_rng x y
      rcases (by omega:cmpR x y≤0∨0<cmpR x y) with hc | hc
      ·have r1:0<cmpR x y↔False:=iff_of_false (by omega) id
       have ho:(out.map intsD).length≤16777215:=by simp;omega
       rcases List.eq_nil_or_concat out with rfl | ⟨o,z,rfl⟩
       ·repeat' (first | refine sq ?_ | refine stp ?_ | refine blk_o (by decide) ?_ | (apply cb;(focus (simp (disch:=(first | omega | (simp;omega))) only [go_sem,w64,nz0,← List.map_take,List.take_length,Int.toNat_zero,Int.toNat_one,List.length_map,q1,q2,q3,r1,intsD];try exact rfl));refine cok ?_) | (refine rgT ?_;intro K hK) | (refine dA ?_;intro K hK) | (with_reducible refine hK _ ?_;clear hK K) | (refine stq ?_;simp (disch:=(first | omega | (simp;omega))) only [go_sem,w64,nz0,← List.map_take,List.take_length,Int.toNat_zero,Int.toNat_one,List.length_map,q1,q2,q3,r1,intsD]) | refine as1 ?_ | fail)
        (first | refine callA (specCmpRA x y) ?_ | refine callD (specCmpRA x y) ?_ | refine callE (specCmpRA x y) ?_ | refine callF (specCmpRA x y) ?_ ?_)
        repeat' (first | refine sq ?_ | refine stp ?_ | refine blk_o (by decide) ?_ | (apply cb;(focus (simp (disch:=(first | omega | (simp;omega))) only [go_sem,w64,nz0,← List.map_take,List.take_length,Int.toNat_zero,Int.toNat_one,List.length_map,q1,q2,q3,r1,intsD];try exact rfl));refine cok ?_) | (refine rgT ?_;intro K hK) | (refine dA ?_;intro K hK) | (with_reducible refine hK _ ?_;clear hK K) | (refine stq ?_;simp (disch:=(first | omega | (simp;omega))) only [go_sem,w64,nz0,← List.map_take,List.take_length,Int.toNat_zero,Int.toNat_one,List.length_map,q1,q2,q3,r1,intsD]) | refine as1 ?_ | fail)
        refine ⟨a.length+(b.length+1),_,by simp only [List.length_cons,List.length_nil];omega,?_,a,y :: b,[] ++ [x],by simp only [List.length_cons,List.length_nil];try omega,(hM.left (fun w h=>by cases h;exact hc) (by simp)),rfl⟩
        (refine sle_mk ?_ ?_ <;> simp (disch:=(first | omega | (simp;omega))) only [go_sem,w64,nz0,← List.map_take,List.take_length,Int.toNat_zero,Int.toNat_one,List.length_map,q1,q2,q3,r1,intsD] <;> exact leafs)
       ·rw [List.concat_eq_append] at hM ho hlo ⊢
        simp only [List.length_append,List.length_cons,List.length_nil] at hlo
        have z1:(((o ++ [z]).length:Nat):Int)=0↔False:=iff_of_false (by simp only [List.length_append,List.length_cons,List.length_nil];omega) id
        have z2:IntKind.i64.wrap ((((o ++ [z]).length:Nat):Int) - 1)=((o.length:Nat):Int):=by rw [w64 (by simp only [List.length_append,List.length_cons,List.length_nil];omega)];simp only [List.length_append,List.length_cons,List.length_nil];omega
        have z3:((o ++ [z]).map intsD).getD o.length (.bool false)=intsD z:=by rw [getDR (by simp),rx_last]
        have z4:((o.length:Nat):Int)<(((o ++ [z]).length:Nat):Int)↔True:=iff_of_true (by simp only [List.length_append,List.length_cons,List.length_nil];omega) trivial
        repeat' (first | refine sq ?_ | refine stp ?_ | refine blk_o (by decide) ?_ | (apply cb;(focus (simp (disch:=(first | omega | (simp;omega))) only [go_sem,w64,nz0,← List.map_take,List.take_length,Int.toNat_zero,Int.toNat_one,List.length_map,q1,q2,q3,r1,z1,z2,z3,z4];try exact rfl));refine cok ?_) | (refine rgT ?_;intro K hK) | (refine dA ?_;intro K hK) | (with_reducible refine hK _ ?_;clear hK K) | (refine stq ?_;simp (disch:=(first | omega | (simp;omega))) only [go_sem,w64,nz0,← List.map_take,List.take_length,Int.toNat_zero,Int.toNat_one,List.length_map,q1,q2,q3,r1,z1,z2,z3,z4]) | refine as1 ?_ | fail)
        (first | refine callA (specCmpRA x y) ?_ | refine callD (specCmpRA x y) ?_ | refine callE (specCmpRA x y) ?_ | refine callF (specCmpRA x y) ?_ ?_)
        repeat' (first | refine sq ?_ | refine stp ?_ | refine blk_o (by decide) ?_ | (apply cb;(focus (simp (disch:=(first | omega | (simp;omega))) only [go_sem,w64,nz0,← List.map_take,List.take_length,Int.toNat_zero,Int.toNat_one,List.length_map,q1,q2,q3,r1,z1,z2,z3,z4];try exact rfl));refine cok ?_) | (refine rgT ?_;intro K hK) | (refine dA ?_;intro K hK) | (with_reducible refine hK _ ?_;clear hK K) | (refine stq ?_;simp (disch:=(first | omega | (simp;omega))) only [go_sem,w64,nz0,← List.map_take,List.take_length,Int.toNat_zero,Int.toNat_one,List.length_map,q1,q2,q3,r1,z1,z2,z3,z4]) | refine as1 ?_ | fail)
        (first | refine callA (specCmpRA z x) ?_ | refine callD (specCmpRA z x) ?_ | refine callE (specCmpRA z x) ?_ | refine callF (specCmpRA z x) ?_ ?_)
        by_cases hz:cmpR z x=0
        ·have hzt:cmpR z x=0↔True:=iff_of_true hz trivial
         repeat' (first | refine sq ?_ | refine stp ?_ | refine blk_o (by decide) ?_ | (apply cb;(focus (simp (disch:=(first | omega | (simp;omega))) only [go_sem,w64,nz0,← List.map_take,List.take_length,Int.toNat_zero,Int.toNat_one,List.length_map,q1,q2,q3,r1,z1,z2,z3,z4,hzt];try exact rfl));refine cok ?_) | (refine rgT ?_;intro K hK) | (refine dA ?_;intro K hK) | (with_reducible refine hK _ ?_;clear hK K) | (refine stq ?_;simp (disch:=(first | omega | (simp;omega))) only [go_sem,w64,nz0,← List.map_take,List.take_length,Int.toNat_zero,Int.toNat_one,List.length_map,q1,q2,q3,r1,z1,z2,z3,z4,hzt]) | refine as1 ?_ | fail)
         obtain rfl:=cmpR_zero.1 hz
         refine ⟨a.length+(b.length+1),_,by simp only [List.length_cons,List.length_nil];omega,?_,a,y :: b,o ++ [z],by simp only [List.length_cons,List.length_nil];try omega,(hM.skip (by simp)),rfl⟩
         (refine sle_mk ?_ ?_ <;> simp (disch:=(first | omega | (simp;omega))) only [go_sem,w64,nz0,← List.map_take,List.take_length,Int.toNat_zero,Int.toNat_one,List.length_map,q1,q2,q3,r1] <;> exact leafs)
        ·have hzt:cmpR z x=0↔False:=iff_of_false hz id
         repeat' (first | refine sq ?_ | refine stp ?_ | refine blk_o (by decide) ?_ | (apply cb;(focus (simp (disch:=(first | omega | (simp;omega))) only [go_sem,w64,nz0,← List.map_take,List.take_length,Int.toNat_zero,Int.toNat_one,List.length_map,q1,q2,q3,r1,z1,z2,z3,z4,hzt];try exact rfl));refine cok ?_) | (refine rgT ?_;intro K hK) | (refine dA ?_;intro K hK) | (with_reducible refine hK _ ?_;clear hK K) | (refine stq ?_;simp (disch:=(first | omega | (simp;omega))) only [go_sem,w64,nz0,← List.map_take,List.take_length,Int.toNat_zero,Int.toNat_one,List.length_map,q1,q2,q3,r1,z1,z2,z3,z4,hzt]) | refine as1 ?_ | fail)
         refine ⟨a.length+(b.length+1),_,by simp only [List.length_cons,List.length_nil];omega,?_,a,y :: b,(o ++ [z]) ++ [x],by simp only [List.length_cons,List.length_nil];try omega,(hM.left (fun w h=>by cases h;exact hc) (hM.less hz)),rfl⟩
         rw [map_snoc intsD (o ++ [z])]
         (refine sle_mk ?_ ?_ <;> simp (disch:=(first | omega | (simp;omega))) only [go_sem,w64,nz0,← List.map_take,List.take_length,Int.toNat_zero,Int.toNat_one,List.length_map,q1,q2,q3,r1,intsD] <;> exact leafs)
      ·have r1:0<cmpR x y↔True:=iff_of_true (by omega) trivial
       have ho:(out.map intsD).length≤16777215:=by simp;omega
       rcases List.eq_nil_or_concat out with rfl | ⟨o,z,rfl⟩
       ·repeat' (first | refine sq ?_ | refine stp ?_ | refine blk_o (by decide) ?_ | (apply cb;(focus (simp (disch:=(first | omega | (simp;omega))) only [go_sem,w64,nz0,← List.map_take,List.take_length,Int.toNat_zero,Int.toNat_one,List.length_map,q1,q2,q3,r1,intsD];try exact rfl));refine cok ?_) | (refine rgT ?_;intro K hK) | (refine dA ?_;intro K hK) | (with_reducible refine hK _ ?_;clear hK K) | (refine stq ?_;simp (disch:=(first | omega | (simp;omega))) only [go_sem,w64,nz0,← List.map_take,List.take_length,Int.toNat_zero,Int.toNat_one,List.length_map,q1,q2,q3,r1,intsD]) | refine as1 ?_ | fail)
        (first | refine callA (specCmpRA x y) ?_ | refine callD (specCmpRA x y) ?_ | refine callE (specCmpRA x y) ?_ | refine callF (specCmpRA x y) ?_ ?_)
        repeat' (first | refine sq ?_ | refine stp ?_ | refine blk_o (by decide) ?_ | (apply cb;(focus (simp (disch:=(first | omega | (simp;omega))) only [go_sem,w64,nz0,← List.map_take,List.take_length,Int.toNat_zero,Int.toNat_one,List.length_map,q1,q2,q3,r1,intsD];try exact rfl));refine cok ?_) | (refine rgT ?_;intro K hK) | (refine dA ?_;intro K hK) | (with_reducible refine hK _ ?_;clear hK K) | (refine stq ?_;simp (disch:=(first | omega | (simp;omega))) only [go_sem,w64,nz0,← List.map_take,List.take_length,Int.toNat_zero,Int.toNat_one,List.length_map,q1,q2,q3,r1,intsD]) | refine as1 ?_ | fail)
        refine ⟨a.length+1+b.length,_,by simp only [List.length_cons,List.length_nil];omega,?_,x :: a,b,[] ++ [y],by simp only [List.length_cons,List.length_nil];try omega,(hM.swap.left (fun w h=>by cases h;have:=cmpR_anti x y;omega) (by simp)).swap,rfl⟩
        (refine sle_mk ?_ ?_ <;> simp (disch:=(first | omega | (simp;omega))) only [go_sem,w64,nz0,← List.map_take,List.take_length,Int.toNat_zero,Int.toNat_one,List.length_map,q1,q2,q3,r1,intsD] <;> exact leafs)
       ·rw [List.concat_eq_append] at hM ho hlo ⊢
        simp only [List.length_append,List.length_cons,List.length_nil] at hlo
        have z1:(((o ++ [z]).length:Nat):Int)=0↔False:=iff_of_false (by simp only [List.length_append,List.length_cons,List.length_nil];omega) id
        have z2:IntKind.i64.wrap ((((o ++ [z]).length:Nat):Int) - 1)=((o.length:Nat):Int):=by rw [w64 (by simp only [List.length_append,List.length_cons,List.length_nil];omega)];simp only [List.length_append,List.length_cons,List.length_nil];omega
        have z3:((o ++ [z]).map intsD).getD o.length (.bool false)=intsD z:=by rw [getDR (by simp),rx_last]
        have z4:((o.length:Nat):Int)<(((o ++ [z]).length:Nat):Int)↔True:=iff_of_true (by simp only [List.length_append,List.length_cons,List.length_nil];omega) trivial
        repeat' (first | refine sq ?_ | refine stp ?_ | refine blk_o (by decide) ?_ | (apply cb;(focus (simp (disch:=(first | omega | (simp;omega))) only [go_sem,w64,nz0,← List.map_take,List.take_length,Int.toNat_zero,Int.toNat_one,List.length_map,q1,q2,q3,r1,z1,z2,z3,z4];try exact rfl));refine cok ?_) | (refine rgT ?_;intro K hK) | (refine dA ?_;intro K hK) | (with_reducible refine hK _ ?_;clear hK K) | (refine stq ?_;simp (disch:=(first | omega | (simp;omega))) only [go_sem,w64,nz0,← List.map_take,List.take_length,Int.toNat_zero,Int.toNat_one,List.length_map,q1,q2,q3,r1,z1,z2,z3,z4]) | refine as1 ?_ | fail)
        (first | refine callA (specCmpRA x y) ?_ | refine callD (specCmpRA x y) ?_ | refine callE (specCmpRA x y) ?_ | refine callF (specCmpRA x y) ?_ ?_)
        repeat' (first | refine sq ?_ | refine stp ?_ | refine blk_o (by decide) ?_ | (apply cb;(focus (simp (disch:=(first | omega | (simp;omega))) only [go_sem,w64,nz0,← List.map_take,List.take_length,Int.toNat_zero,Int.toNat_one,List.length_map,q1,q2,q3,r1,z1,z2,z3,z4];try exact rfl));refine cok ?_) | (refine rgT ?_;intro K hK) | (refine dA ?_;intro K hK) | (with_reducible refine hK _ ?_;clear hK K) | (refine stq ?_;simp (disch:=(first | omega | (simp;omega))) only [go_sem,w64,nz0,← List.map_take,List.take_length,Int.toNat_zero,Int.toNat_one,List.length_map,q1,q2,q3,r1,z1,z2,z3,z4]) | refine as1 ?_ | fail)
        (first | refine callA (specCmpRA z y) ?_ | refine callD (specCmpRA z y) ?_ | refine callE (specCmpRA z y) ?_ | refine callF (specCmpRA z y) ?_ ?_)
        by_cases hz:cmpR z y=0
        ·have hzt:cmpR z y=0↔True:=iff_of_true hz trivial
         repeat' (first | refine sq ?_ | refine stp ?_ | refine blk_o (by decide) ?_ | (apply cb;(focus (simp (disch:=(first | omega | (simp;omega))) only [go_sem,w64,nz0,← List.map_take,List.take_length,Int.toNat_zero,Int.toNat_one,List.length_map,q1,q2,q3,r1,z1,z2,z3,z4,hzt];try exact rfl));refine cok ?_) | (refine rgT ?_;intro K hK) | (refine dA ?_;intro K hK) | (with_reducible refine hK _ ?_;clear hK K) | (refine stq ?_;simp (disch:=(first | omega | (simp;omega))) only [go_sem,w64,nz0,← List.map_take,List.take_length,Int.toNat_zero,Int.toNat_one,List.length_map,q1,q2,q3,r1,z1,z2,z3,z4,hzt]) | refine as1 ?_ | fail)
         obtain rfl:=cmpR_zero.1 hz
         refine ⟨a.length+1+b.length,_,by simp only [List.length_cons,List.length_nil];omega,?_,x :: a,b,o ++ [z],by simp only [List.length_cons,List.length_nil];try omega,(hM.swap.skip (by simp)).swap,rfl⟩
         (refine sle_mk ?_ ?_ <;> simp (disch:=(first | omega | (simp;omega))) only [go_sem,w64,nz0,← List.map_take,List.take_length,Int.toNat_zero,Int.toNat_one,List.length_map,q1,q2,q3,r1] <;> exact leafs)
        ·have hzt:cmpR z y=0↔False:=iff_of_false hz id
         repeat' (first | refine sq ?_ | refine stp ?_ | refine blk_o (by decide) ?_ | (apply cb;(focus (simp (disch:=(first | omega | (simp;omega))) only [go_sem,w64,nz0,← List.map_take,List.take_length,Int.toNat_zero,Int.toNat_one,List.length_map,q1,q2,q3,r1,z1,z2,z3,z4,hzt];try exact rfl));refine cok ?_) | (refine rgT ?_;intro K hK) | (refine dA ?_;intro K hK) | (with_reducible refine hK _ ?_;clear hK K) | (refine stq ?_;simp (disch:=(first | omega | (simp;omega))) only [go_sem,w64,nz0,← List.map_take,List.take_length,Int.toNat_zero,Int.toNat_one,List.length_map,q1,q2,q3,r1,z1,z2,z3,z4,hzt]) | refine as1 ?_ | fail)
         refine ⟨a.length+1+b.length,_,by simp only [List.length_cons,List.length_nil];omega,?_,x :: a,b,(o ++ [z]) ++ [y],by simp only [List.length_cons,List.length_nil];try omega,(hM.swap.left (fun w h=>by cases h;have:=cmpR_anti x y;omega) (hM.swap.less hz)).swap,rfl⟩
         rw [map_snoc intsD (o ++ [z])]
         (refine sle_mk ?_ ?_ <;> simp (disch:=(first | omega | (simp;omega))) only [go_sem,w64,nz0,← List.map_take,List.take_length,Int.toNat_zero,Int.toNat_one,List.length_map,q1,q2,q3,r1,intsD] <;> exact leafs)
end Go.Proofs.Ytlpdbkhekbdceaa
namespace Go.Proofs.Ytlpdbkhekbdceaa
set_option linter.unusedSimpArgs false
set_option linter.unusedVariables false
attribute [local go_sem ↓] reduceIte
attribute [local go_sem] Nat.reduceEqDiff Nat.reduceLT Nat.reduceAdd Nat.reduceLeDiff Nat.reduceMul Nat.reduceBEq Nat.reduceSub reduceCtorEq Int.reduceLE Int.reduceNeg Int.reduceLT
open Go.RowKit
theorem specNewRelA (ar:Int) (rows:List (List Int)) (hl:rows.length≤1048576) (har:ar≤1048576):AFn 38 [.d (.int ar),.d (rowsD rows)] [] (fun r os=>r=.tup [.d (relD (nrAr ar rows) (nrRows ar rows)),.d (.bool (nrOK ar rows))]∧os=[]):=by
 refine afn_of (rv:=[.cell 4 53,.tmp 5]) tyT_ok Try.func38 rfl (by decide +kernel) Try.ntmps38 rfl (by simp) ?_
 repeat' (first | refine sq ?_ | refine stp ?_ | refine blk_o (by decide) ?_ | (apply cb;(focus (simp (disch:=(first | omega | (simp;omega))) only [go_sem,w64];try exact rfl));refine cok ?_) | (refine rgT ?_;intro K hK) | (refine dA ?_;intro K hK) | (with_reducible refine hK _ ?_;clear hK K) | (refine stq ?_;simp (disch:=(first | omega | (simp;omega))) only [go_sem,w64]) | refine as1 ?_ | fail)
 refine awp_loopw (fun m s=>∃ k,m=rows.length - k∧k≤rows.length∧(∀ i,i<k→((rx rows i).length:Int)=ar∧valB (rx rows i)=true)∧s=mkS [(0,.d (.int ar)),(1,.d (rowsD rows)),(4,.ptr 4 0),(6,.d (.int (k:Nat)))] [(4,[.d (.int 0),.nil])]) ?_ ?_
 ·refine ⟨_,_,?_,0,rfl,Nat.zero_le _,fun i hi=>absurd hi (Nat.not_lt_zero _),rfl⟩
  exact sleA
 ·rintro m s ⟨k,rfl,hk,hin,rfl⟩
  repeat' (first | refine sq ?_ | refine stp ?_ | refine blk_o (by decide) ?_ | (apply cb;(focus (simp (disch:=(first | omega | (simp;omega))) only [go_sem,w64];try exact rfl));refine cok ?_) | (refine rgT ?_;intro K hK) | (refine dA ?_;intro K hK) | (with_reducible refine hK _ ?_;clear hK K) | (refine stq ?_;simp (disch:=(first | omega | (simp;omega))) only [go_sem,w64]) | refine as1 ?_ | fail)
  refine awp_if (p:=(k:Int)<rows.length) (by simp (disch:=(first | omega | (simp;omega))) only [go_sem,w64]) ?_ ?_ <;> intro hc
  ·have hk2:k<rows.length:=by omega
   have g0:(rows.map intsD).getD k (.bool false)=intsD (rx rows k):=getDR hk2
   by_cases h1:((rx rows k).length:Int)=ar
   ·have h1t:((rx rows k).length:Int)=ar↔True:=iff_of_true h1 trivial
    repeat' (first | refine sq ?_ | refine stp ?_ | refine blk_o (by decide) ?_ | (apply cb;(focus (simp (disch:=(first | omega | (simp;omega))) only [go_sem,w64,g0,h1t];try exact rfl));refine cok ?_) | (refine rgT ?_;intro K hK) | (refine dA ?_;intro K hK) | (with_reducible refine hK _ ?_;clear hK K) | (refine stq ?_;simp (disch:=(first | omega | (simp;omega))) only [go_sem,w64,g0,h1t]) | refine as1 ?_ | fail)
    (first | refine callA (specValsA (rx rows k)) ?_ | refine callD (specValsA (rx rows k)) ?_ | refine callE (specValsA (rx rows k)) ?_ | refine callF (specValsA (rx rows k)) ?_ ?_)
    cases h2:valB (rx rows k) with
    | true =>
     repeat' (first | refine sq ?_ | refine stp ?_ | refine blk_o (by decide) ?_ | (apply cb;(focus (simp (disch:=(first | omega | (simp;omega))) only [go_sem,w64,g0,h1t];try exact rfl));refine cok ?_) | (refine rgT ?_;intro K hK) | (refine dA ?_;intro K hK) | (with_reducible refine hK _ ?_;clear hK K) | (refine stq ?_;simp (disch:=(first | omega | (simp;omega))) only [go_sem,w64,g0,h1t]) | refine as1 ?_ | fail)
     refine ⟨rows.length - (k+1),_,by omega,?_,k+1,rfl,by omega,fun i hi=>?_,rfl⟩
     ·exact sleA
     ·by_cases e:i=k
      ·subst e;exact ⟨h1,h2⟩
      ·exact hin i (by omega)
    | false =>
     repeat' (first | refine sq ?_ | refine stp ?_ | refine blk_o (by decide) ?_ | (apply cb;(focus (simp (disch:=(first | omega | (simp;omega))) only [go_sem,w64,g0,h1t];try exact rfl));refine cok ?_) | (refine rgT ?_;intro K hK) | (refine dA ?_;intro K hK) | (with_reducible refine hK _ ?_;clear hK K) | (refine stq ?_;simp (disch:=(first | omega | (simp;omega))) only [go_sem,w64,g0,h1t]) | refine as1 ?_ | fail)
     have hno:=nr_out (ar:=ar) hk2 (fun h=>by rw [h2] at h;cases h.2)
     obtain ⟨e1,e2⟩:=nr_no hno
     rw [e1,e2,hno]
     (refine endA (r:=.tup [.d (.agg [.int 0,.sl 1 []]),.d (.bool false)]) ?_)
     exact ⟨rfl,rfl⟩
   ·have h1t:((rx rows k).length:Int)=ar↔False:=iff_of_false h1 id
    repeat' (first | refine sq ?_ | refine stp ?_ | refine blk_o (by decide) ?_ | (apply cb;(focus (simp (disch:=(first | omega | (simp;omega))) only [go_sem,w64,g0,h1t];try exact rfl));refine cok ?_) | (refine rgT ?_;intro K hK) | (refine dA ?_;intro K hK) | (with_reducible refine hK _ ?_;clear hK K) | (refine stq ?_;simp (disch:=(first | omega | (simp;omega))) only [go_sem,w64,g0,h1t]) | refine as1 ?_ | fail)
    have hno:=nr_out (ar:=ar) hk2 (fun h=>h1 h.1)
    obtain ⟨e1,e2⟩:=nr_no hno
    rw [e1,e2,hno]
    (refine endA (r:=.tup [.d (.agg [.int 0,.sl 1 []]),.d (.bool false)]) ?_)
    exact ⟨rfl,rfl⟩
  ·obtain rfl:k=rows.length:=by omega
   have hs:SameL ar.toNat rows:=rowsIn.same hin
   have hsl:=srt_len rows
   repeat' (first | refine sq ?_ | refine stp ?_ | refine blk_o (by decide) ?_ | (apply cb;(focus (simp (disch:=(first | omega | (simp;omega))) only [go_sem,w64];try exact rfl));refine cok ?_) | (refine rgT ?_;intro K hK) | (refine dA ?_;intro K hK) | (with_reducible refine hK _ ?_;clear hK K) | (refine stq ?_;simp (disch:=(first | omega | (simp;omega))) only [go_sem,w64]) | refine as1 ?_ | fail)
   (first | refine callA (l5SortA ar.toNat (by omega) rows.length rows (Nat.le_refl _) hl hs) ?_ | refine callD (l5SortA ar.toNat (by omega) rows.length rows (Nat.le_refl _) hl hs) ?_ | refine callE (l5SortA ar.toNat (by omega) rows.length rows (Nat.le_refl _) hl hs) ?_ | refine callF (l5SortA ar.toNat (by omega) rows.length rows (Nat.le_refl _) hl hs) ?_ ?_)
   repeat' (first | refine sq ?_ | refine stp ?_ | refine blk_o (by decide) ?_ | (apply cb;(focus (simp (disch:=(first | omega | (simp;omega))) only [go_sem,w64];try exact rfl));refine cok ?_) | (refine rgT ?_;intro K hK) | (refine dA ?_;intro K hK) | (with_reducible refine hK _ ?_;clear hK K) | (refine stq ?_;simp (disch:=(first | omega | (simp;omega))) only [go_sem,w64]) | refine as1 ?_ | fail)
   (first | refine callA (l5CopyA ar (srt rows) (by omega) (fun x hx=>by have:=hs.srt x hx;omega)) ?_ | refine callD (l5CopyA ar (srt rows) (by omega) (fun x hx=>by have:=hs.srt x hx;omega)) ?_ | refine callE (l5CopyA ar (srt rows) (by omega) (fun x hx=>by have:=hs.srt x hx;omega)) ?_ | refine callF (l5CopyA ar (srt rows) (by omega) (fun x hx=>by have:=hs.srt x hx;omega)) ?_ ?_)
   repeat' (first | refine sq ?_ | refine stp ?_ | refine blk_o (by decide) ?_ | (apply cb;(focus (simp (disch:=(first | omega | (simp;omega))) only [go_sem,w64];try exact rfl));refine cok ?_) | (refine rgT ?_;intro K hK) | (refine dA ?_;intro K hK) | (with_reducible refine hK _ ?_;clear hK K) | (refine stq ?_;simp (disch:=(first | omega | (simp;omega))) only [go_sem,w64]) | refine as1 ?_ | fail)
   (first | refine callA (specValidRelA ar (srt rows)) ?_ | refine callD (specValidRelA ar (srt rows)) ?_ | refine callE (specValidRelA ar (srt rows)) ?_ | refine callF (specValidRelA ar (srt rows)) ?_ ?_)
   cases h3:validR ar (srt rows) with
   | false =>
    repeat' (first | refine sq ?_ | refine stp ?_ | refine blk_o (by decide) ?_ | (apply cb;(focus (simp (disch:=(first | omega | (simp;omega))) only [go_sem,w64];try exact rfl));refine cok ?_) | (refine rgT ?_;intro K hK) | (refine dA ?_;intro K hK) | (with_reducible refine hK _ ?_;clear hK K) | (refine stq ?_;simp (disch:=(first | omega | (simp;omega))) only [go_sem,w64]) | refine as1 ?_ | fail)
    have hno:=nr_val h3
    obtain ⟨e1,e2⟩:=nr_no hno
    rw [e1,e2,hno]
    (refine endA (r:=.tup [.d (.agg [.int 0,.sl 1 []]),.d (.bool false)]) ?_)
    exact ⟨rfl,rfl⟩
   | true =>
    repeat' (first | refine sq ?_ | refine stp ?_ | refine blk_o (by decide) ?_ | (apply cb;(focus (simp (disch:=(first | omega | (simp;omega))) only [go_sem,w64];try exact rfl));refine cok ?_) | (refine rgT ?_;intro K hK) | (refine dA ?_;intro K hK) | (with_reducible refine hK _ ?_;clear hK K) | (refine stq ?_;simp (disch:=(first | omega | (simp;omega))) only [go_sem,w64]) | refine as1 ?_ | fail)
    have hno:=nr_in hin h3
    obtain ⟨e1,e2⟩:=nr_yes hno
    rw [e1,e2,hno]
    (refine endA (r:=.tup [.d (relD ar (srt rows)),.d (.bool true)]) ?_)
    exact ⟨rfl,rfl⟩
end Go.Proofs.Ytlpdbkhekbdceaa
namespace Go.Proofs.Ytlpdbkhekbdceaa
set_option linter.unusedSimpArgs false
set_option linter.unusedVariables false
open Go.RowKit
def ValsA (lo hi:Nat) (w:World) (a:Option Addr) (n c:Nat) (vs:List Value):Prop :=
 vs.length=n∧n≤c∧c≤maxLen∧(∀ u∈vs,u.oneCell'=true)∧(0<n→∃ b off,a=some ⟨b,off,none⟩∧lo≤b∧b<hi∧∀ i u,vs[i]? = some u→w.cell? ⟨b,off+i,none⟩=some u)∧(a=none→c=0)
section
variable {lo hi:Nat} {w w':World} {a:Option Addr} {n c:Nat} {vs:List Value}
theorem ValsA.len (h:ValsA lo hi w a n c vs):vs.length=n:=h.1
theorem ValsA.keep (h:ValsA lo hi w a n c vs) (hk:Keeps lo hi w w'):ValsA lo hi w' a n c vs:=by
 obtain ⟨h1,h2,h3,h4,h5,h6⟩:=h
 refine ⟨h1,h2,h3,h4,fun hn=>?_,h6⟩
 obtain ⟨b,off,ha,hl,hb,hc⟩:=h5 hn
 exact ⟨b,off,ha,hl,hb,fun i u hu=>by rw [World.cell?_of_block (w:=w) (hk b hl hb)];exact hc i u hu⟩
theorem ValsA.wide {lo' hi':Nat} (h:ValsA lo hi w a n c vs) (h1:lo'≤lo) (h2:hi≤hi'):ValsA lo' hi' w a n c vs:=by
 obtain ⟨g1,g2,g3,g4,g5,g6⟩:=h
 refine ⟨g1,g2,g3,g4,fun hn=>?_,g6⟩
 obtain ⟨b,off,ha,hl,hb,hc⟩:=g5 hn
 exact ⟨b,off,ha,by omega,by omega,hc⟩
theorem ValsA.drewN (h:ValsA lo hi w a n c vs) (k:Nat):ValsA lo hi (w.drewN k) a n c vs:=h
end
def OwnV (e:TypeId) (base:Nat) (w:World) (a:Option Addr) (n c:Nat) (vs:List Value):Prop:=w.ownsRow base e 1 (.slice a n c) n vs∧∀ u∈vs,u.oneCell'=true
theorem OwnV.len {e:TypeId} {base:Nat} {w:World} {a:Option Addr} {n c:Nat} {vs:List Value} (h:OwnV e base w a n c vs):vs.length=n:=by
 have:=h.1.1;omega
theorem OwnV.keep {e:TypeId} {base:Nat} {w w':World} {a:Option Addr} {n c:Nat} {vs:List Value} (h:OwnV e base w a n c vs) (hk:Keeps base w.heap.size w w'):OwnV e base w' a n c vs:=by
 obtain ⟨⟨h1,h2⟩,h64⟩:=h
 refine ⟨⟨h1,?_⟩,h64⟩
 rcases h2 with h2 | ⟨g,cap,cur,hv,hb,hg,rest⟩
 ·exact .inl h2
 ·exact .inr ⟨g,cap,cur,hv,hb,by rw [hk g hb (Array.getElem?_eq_some_iff.1 hg).1];exact hg,rest⟩
theorem OwnV.alloc {e:TypeId} {base:Nat} {w:World} {a:Option Addr} {n c:Nat} {vs:List Value} (h:OwnV e base w a n c vs) (o:Obj):OwnV e base (w.alloc o) a n c vs:=⟨h.1.alloc o,h.2⟩
theorem OwnV.drewN {e:TypeId} {base:Nat} {w:World} {a:Option Addr} {n c:Nat} {vs:List Value} (h:OwnV e base w a n c vs) (k:Nat):OwnV e base (w.drewN k) a n c vs:=h
structure Elem (t e:TypeId) (bytes:Nat):Prop where
 under:Try.prog.underlying t=some (.slice e)
 info:∃ i z,Try.prog.info? e=some i∧i.zero=some z∧i.size=1∧i.bytes=bytes∧z.cells.size=1
 small:bytes≤4096
theorem at1 (W:World) (A B:Obj):((W.alloc A).alloc B).heap[W.heap.size+1]? = some B:=by
 have:=heap_alloc_new (W.alloc A) B
 simpa using this
end Go.Proofs.Ytlpdbkhekbdceaa
namespace Go.Proofs.Ytlpdbkhekbdceaa
set_option linter.unusedSimpArgs false
set_option linter.unusedVariables false
open Go.RowKit
abbrev RowP (α:Type):=Nat→Nat→World→Option Addr→Nat→Nat→α→Prop
structure RowPOK {α:Type} (Q:RowP α):Prop where
 keep:∀ {lo hi w w' a n c x},Q lo hi w a n c x→Keeps lo hi w w'→Q lo hi w' a n c x
 wide:∀ {lo hi lo' hi' w a n c x},Q lo hi w a n c x→lo'≤lo→hi≤hi'→Q lo' hi' w a n c x
def HeadI (w:World) (s t:Nat):Prop:=s<t→t=s+1∧∃ z:Int,w.cell? ⟨s,0,none⟩=some (.int .i64 z)
theorem HeadI.keep {w w':World} {s t lo hi:Nat} (h:HeadI w s t) (hk:Keeps lo hi w w') (h1:lo≤s) (h2:t≤hi):HeadI w' s t:=fun hlt=>by
 obtain ⟨g1,z,g2⟩:=h hlt
 exact ⟨g1,z,by rw [World.cell?_of_block (w:=w) (hk s h1 (by omega))];exact g2⟩
def SepV {α:Type} (Q:RowP α) (lo hi:Nat) (w:World) (vs:List Value) (xss:List α):Prop :=
 vs.length=xss.length∧∃ s t:Nat→Nat,(∀ i,i<xss.length→lo≤s i∧t i≤hi∧HeadI w (s i) (t i)∧∃ ra rn rc x,xss[i]? = some x∧vs[i]? = some (.slice ra rn rc)∧Q (s i) (t i) w ra rn rc x) ∧
  ∀ i j,i<xss.length→j<xss.length→i ≠ j→t i≤s j∨t j≤s i
section
variable {α:Type} {Q:RowP α} {lo hi lo' hi':Nat} {w w':World} {vs:List Value} {xss:List α}
theorem SepV.nil (Q:RowP α) (lo hi:Nat) (w:World):SepV Q lo hi w [] []:=⟨rfl,fun _=>0,fun _=>0,fun i hi=>by simp at hi,fun i j hi=>by simp at hi⟩
theorem SepV.keep (ok:RowPOK Q) (h:SepV Q lo hi w vs xss) (hk:Keeps lo hi w w'):SepV Q lo hi w' vs xss:=by
 obtain ⟨h1,s,t,h2,h3⟩:=h
 refine ⟨h1,s,t,fun i hi=>?_,h3⟩
 obtain ⟨g1,g2,g0,ra,rn,rc,x,g3,g4,g5⟩:=h2 i hi
 exact ⟨g1,g2,g0.keep hk g1 g2,ra,rn,rc,x,g3,g4,ok.keep g5 (hk.mono g1 g2)⟩
theorem SepV.wide (h:SepV Q lo hi w vs xss) (hl:lo'≤lo) (hh:hi≤hi'):SepV Q lo' hi' w vs xss:=by
 obtain ⟨h1,s,t,h2,h3⟩:=h
 refine ⟨h1,s,t,fun i hi=>?_,h3⟩
 obtain ⟨g1,g2,g⟩:=h2 i hi
 exact ⟨by omega,by omega,g⟩
theorem SepV.one (h:SepV Q lo hi w vs xss):∀ u∈vs,u.oneCell'=true:=by
 obtain ⟨h1,s,t,h2,_⟩:=h
 intro u hu
 obtain ⟨i,hi,rfl⟩:=List.getElem_of_mem hu
 obtain ⟨_,_,_,ra,rn,rc,x,_,g4,_⟩:=h2 i (by omega)
 rw [List.getElem?_eq_getElem hi] at g4
 rw [Option.some.inj g4];rfl
end
def SepA {α:Type} (Q:RowP α) (lo hi:Nat) (w:World) (a:Option Addr) (n c:Nat) (xss:List α):Prop :=
 xss.length=n∧n≤c∧c≤maxLen∧(0<n→∃ b off,a=some ⟨b,off,none⟩∧lo≤b∧b<hi∧∃ vs,SepV Q lo hi w vs xss∧∀ i u,vs[i]? = some u→w.cell? ⟨b,off+i,none⟩=some u∧w.frozen? ⟨b,off+i,none⟩=false)∧(a=none→c=0)
section
variable {α:Type} {Q:RowP α} {lo hi lo' hi':Nat} {w w':World} {a:Option Addr} {n c:Nat} {xss:List α}
theorem SepA.len (h:SepA Q lo hi w a n c xss):xss.length=n:=h.1
theorem SepA.keep (ok:RowPOK Q) (h:SepA Q lo hi w a n c xss) (hk:Keeps lo hi w w'):SepA Q lo hi w' a n c xss:=by
 obtain ⟨h1,h2,h3,h4,h5⟩:=h
 refine ⟨h1,h2,h3,fun hn=>?_,h5⟩
 obtain ⟨b,off,ha,hl,hb,vs,hv,hc⟩:=h4 hn
 refine ⟨b,off,ha,hl,hb,vs,hv.keep ok hk,fun i u hu=>?_⟩
 rw [World.cell?_of_block (w:=w) (hk b hl hb),World.frozen?_of_block (w:=w) (hk b hl hb)];exact hc i u hu
theorem SepA.wide (h:SepA Q lo hi w a n c xss) (h1:lo'≤lo) (h2:hi≤hi'):SepA Q lo' hi' w a n c xss:=by
 obtain ⟨g1,g2,g3,g4,g5⟩:=h
 refine ⟨g1,g2,g3,fun hn=>?_,g5⟩
 obtain ⟨b,off,ha,hl,hb,vs,hv,hc⟩:=g4 hn
 exact ⟨b,off,ha,by omega,by omega,vs,hv.wide h1 h2,hc⟩
theorem SepA.sl {R:Rep α} (hR:∀ {lo hi w ra rn rc x},Q lo hi w ra rn rc x→R true lo hi w [.slice ra rn rc] x) (ok:RepOK R) (h:SepA Q lo hi w a n c xss):SlA 1 R true lo hi w a n c xss:=by
 obtain ⟨h1,h2,h3,h4,h5⟩:=h
 refine ⟨h1,h2,h3,fun hn=>?_,h5⟩
 obtain ⟨b,off,ha,hl,hb,vs,hv,hc⟩:=h4 hn
 refine ⟨b,off,ha,hl,hb,fun i hi=>?_⟩
 obtain ⟨_,s,t,g1,_⟩:=hv
 obtain ⟨e1,e2,_,ra,rn,rc,x,e3,e4,e5⟩:=g1 i (by omega)
 refine ⟨[.slice ra rn rc],x,rfl,e3,ok.wide (hR e5) e1 e2,fun j hj=>?_⟩
 obtain rfl:j=0:=by omega
 have:=hc i _ e4
 exact ⟨by simpa using this.1,fun _=>by simpa using this.2⟩
theorem SepA.row (ok:RowPOK Q) {b off:Nat} (h:SepA Q lo hi w (some ⟨b,off,none⟩) n c xss) {i:Nat} (hi':i<n) {x:α} (hx:xss[i]? = some x) :
 ∃ s t ra rn rc,lo≤s∧t≤hi∧w.cell? ⟨b,off+i,none⟩=some (.slice ra rn rc)∧Q s t w ra rn rc x ∧
  ∀ w' y,Marked s t w w'→Q s t w' ra rn rc y→SepA Q lo hi w' (some ⟨b,off,none⟩) n c (xss.set i y):=by
 obtain ⟨h1,h2,h3,h4,h5⟩:=h
 obtain ⟨b',off',ha,hl,hb,vs,hv,hc⟩:=h4 (by omega)
 simp only [Option.some.injEq,Addr.mk.injEq,and_true] at ha
 obtain ⟨rfl,rfl⟩:=ha
 obtain ⟨k1,s,t,g1,g2⟩:=hv
 obtain ⟨e1,e2,e0,ra,rn,rc,x',e3,e4,e5⟩:=g1 i (by omega)
 rw [hx] at e3;cases e3
 refine ⟨s i,t i,ra,rn,rc,e1,e2,(hc i _ e4).1,e5,fun w' y hm hy=>?_⟩
 refine ⟨by simpa using h1,h2,h3,fun _=>⟨b,off,rfl,hl,hb,vs,⟨by simpa using k1,s,t,fun j hj=>?_,fun j k hj hk=>by simp at hj hk;exact g2 j k hj hk⟩,fun j u hu=>?_⟩,h5⟩
 ·simp at hj
  by_cases e:j=i
  ·subst e
   refine ⟨e1,e2,?_,ra,rn,rc,y,by rw [List.getElem?_set_self (by omega)],e4,hy⟩
   intro hlt
   obtain ⟨k3,z,k4⟩:=e0 hlt
   obtain ⟨v',q1,q2⟩:=hm.cell _ _ k4
   rcases q2 with rfl | ⟨_,z',_,rfl,_⟩
   ·exact ⟨k3,z,q1⟩
   ·exact ⟨k3,z',q1⟩
  ·obtain ⟨f1,f2,f0,ra',rn',rc',z,f3,f4,f5⟩:=g1 j hj
   have hkk:=hm.keeps (lo':=s j) (hi':=t j) (by have:=g2 j i hj (by omega) e;omega)
   exact ⟨f1,f2,f0.keep hkk (Nat.le_refl _) (Nat.le_refl _),ra',rn',rc',z,by rw [List.getElem?_set_ne (by omega)];exact f3,f4,ok.keep f5 hkk⟩
 ·obtain ⟨g3,g4⟩:=hc j u hu
  have hsl:∃ ra rn rc,u=.slice ra rn rc:=by
   have hj:j<xss.length:=by rw [← k1];exact (List.getElem?_eq_some_iff.1 hu).1
   obtain ⟨_,_,_,ra',rn',rc',_,_,f4,_⟩:=g1 j hj
   rw [hu] at f4;cases f4;exact ⟨_,_,_,rfl⟩
  obtain ⟨ra',rn',rc',rfl⟩:=hsl
  obtain ⟨v',q1,q2⟩:=hm.cell _ _ g3
  refine ⟨?_,by rw [hm.frz];exact g4⟩
  rcases q2 with rfl | ⟨_,_,h,_⟩
  ·exact q1
  ·cases h
end
theorem SepA.own {α:Type} {Q:RowP α} {e:TypeId} {base:Nat} {w:World} {a:Option Addr} {n c:Nat} {vs:List Value} {xss:List α} (h:OwnV e base w a n c vs) (hv:SepV Q base w.heap.size w vs xss):SepA Q base w.heap.size w a n c xss:=by
 have hlen:=h.len
 obtain ⟨h1,h2⟩:=h.1
 rcases h2 with ⟨h2,h3⟩ | ⟨g,cap,cur,hvv,hb,hg,hnc,hcm,hcs,htake⟩
 ·simp only [Value.slice.injEq] at h2
  obtain ⟨rfl,rfl,rfl⟩:=h2
  exact ⟨by rw [← hv.1];exact hlen,Nat.le_refl _,by simp [maxLen],fun h=>by omega,fun _=>rfl⟩
 ·have ho':=h.1
  simp only [Value.slice.injEq] at hvv
  obtain ⟨rfl,_,rfl⟩:=hvv
  refine ⟨by rw [← hv.1];exact hlen,hnc,hcm,fun _=>⟨g,0,rfl,hb,(Array.getElem?_eq_some_iff.1 hg).1,vs,hv,fun i u hu=>⟨?_,?_⟩⟩,fun h=>(by cases h)⟩
  ·have h5:=ho'.cells (g:=g) rfl i u hu
   rwa [Addr.add_lit] at h5
  ·exact frozen_of_row w g (0+i) cur _ hg
end Go.Proofs.Ytlpdbkhekbdceaa
namespace Go.Proofs.Ytlpdbkhekbdceaa
set_option linter.unusedSimpArgs false
set_option linter.unusedVariables false
open Go.RowKit
def intsQ:RowP (List Int):=fun lo hi w a n c xs=>IntsA true lo hi w a n c xs
abbrev RowsS:=SepA intsQ
theorem RowsS.rows {lo hi:Nat} {w:World} {a:Option Addr} {n c:Nat} {xss:List (List Int)} (h:RowsS lo hi w a n c xss):RowsA true lo hi w a n c xss:=SepA.sl (R:=intsR) (fun {lo hi w ra rn rc x} h=>⟨ra,rn,rc,rfl,h⟩) intsOK h
end Go.Proofs.Ytlpdbkhekbdceaa
