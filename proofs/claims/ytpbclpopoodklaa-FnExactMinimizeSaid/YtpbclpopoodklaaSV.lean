/- Lemmas for the proof of FnExactMaximize, part 40 of 56: no condition of their own. -/
import Derived.Test.YtpbclpopoodklaaSU
namespace Go.Proofs.Ytpbclpopoodklaa
set_option linter.unusedSimpArgs false
set_option linter.unusedVariables false
attribute [local go_sem ↓] reduceIte
attribute [local go_sem] Nat.reduceEqDiff Nat.reduceLT Nat.reduceAdd Nat.reduceLeDiff Nat.reduceMul Nat.reduceBEq Nat.reduceSub reduceCtorEq Int.reduceLE Int.reduceNeg Int.reduceLT
open Go.RowKit
def pickF (T:Nat):Nat→Nat→List (List Nat)
  | 0,_=>[[]]
  | n+1,k=>(List.range' k (T - n - k)).flatMap fun i=>(pickF T n (i+1)).map (i :: ·)
def pkD (l:List Nat):DV:=.sl 1 (l.map fun k:Nat=>DV.int k)
theorem pick_sum (T:Nat) (f:Nat→List (List Nat)):∀ (m k:Nat),k+m≤T→(∀ i,k≤i→i<k+m→(f i).length≤2 ^ (T - (i+1)))→((List.range' k m).flatMap f).length+2 ^ (T - (k+m))≤2 ^ (T - k)
  | 0,k,h,_=>by simp
  | m+1,k,h,hf=>by
    have h1:=pick_sum T f m (k+1) (by omega) (fun i hi hi2=>hf i (by omega) (by omega))
    have h2:=hf k (Nat.le_refl _) (by omega)
    rw [List.range'_succ,List.flatMap_cons,List.length_append]
    have e:2 ^ (T - k)=2 ^ (T - (k+1))+2 ^ (T - (k+1)):=by rw [show T - k=(T - (k+1))+1 by omega,Nat.pow_succ];omega
    rw [show k+1+m=k+(m+1) by omega] at h1
    rw [e];omega
theorem pickF_len (T:Nat):∀ (n k:Nat),k≤T→(pickF T n k).length≤2 ^ (T - k)
  | 0,k,_=>by simp only [pickF,List.length_cons,List.length_nil];exact Nat.one_le_two_pow
  | n+1,k,hk=>by
    simp only [pickF]
    by_cases h:k≤T - n
    · have:=pick_sum T (fun i=>(pickF T n (i+1)).map (i :: ·)) (T - n - k) k (by omega) (fun i h1 h2=>by rw [List.length_map];exact pickF_len T n (i+1) (by omega))
      exact Nat.le_trans (Nat.le_add_right _ _) this
    · rw [show T - n - k=0 by omega];simp
theorem pickF_mem (T:Nat):∀ (n k:Nat) (l:List Nat),l∈pickF T n k→l.length=n∧∀ x∈l,x<T
  | 0,k,l,h=>by simp only [pickF,List.mem_singleton] at h;subst h;exact ⟨rfl,fun x hx=>by cases hx⟩
  | n+1,k,l,h=>by
    simp only [pickF,List.mem_flatMap,List.mem_range'_1,List.mem_map] at h
    obtain ⟨i,⟨h1,h2⟩,l',h3,rfl⟩:=h
    obtain ⟨h4,h5⟩:=pickF_mem T n (i+1) l' h3
    refine ⟨by simp [h4],fun x hx=>?_⟩
    rcases List.mem_cons.1 hx with rfl | hx
    · omega
    · exact h5 x hx
theorem pow10 {T k:Nat} (h:T≤10):2 ^ (T - k)≤1024:=Nat.le_trans (Nat.pow_le_pow_right (by decide) (show T - k≤10 by omega)) (by decide)
def pickTo (T n k i:Nat):List (List Nat):=(List.range' k (i - k)).flatMap fun i=>(pickF T n (i+1)).map (i :: ·)
theorem pickTo_succ (T n:Nat) {k i:Nat} (h:k≤i):pickTo T n k (i+1)=pickTo T n k i ++ (pickF T n (i+1)).map (i :: ·):=by
  unfold pickTo
  rw [show i+1 - k=(i - k)+1 by omega,List.range'_1_concat,List.flatMap_append,show k+(i - k)=i by omega]
  simp
theorem pickTo_len (T n:Nat) {k i:Nat} (h:k≤i) (hi:i≤T):(pickTo T n k i).length≤2 ^ (T - k):=by
  have:=pick_sum T (fun i=>(pickF T n (i+1)).map (i :: ·)) (i - k) k (by omega) (fun j h1 h2=>by rw [List.length_map];exact pickF_len T n (j+1) (by omega))
  unfold pickTo
  exact Nat.le_trans (Nat.le_add_right _ _) this
theorem specPickA (T:Nat) (hT:T≤10):∀ (n k:Nat),k≤T→n≤10→AFn 36 [.d (.int (k:Nat)),.d (.int (T:Nat)),.d (.int (n:Nat))] [] (fun r os=>r=.d (.sl 1 ((pickF T n k).map pkD))∧os=[]):=by
  intro n
  induction n with
  | zero =>
    intro k hk hn
    refine afn_of (rv:=[.tmp 6]) tyT_ok Try.func36 rfl (by decide +kernel) Try.ntmps36 rfl (by simp) ?_
    have z0:decide (((0:Nat):Int)=0)=true:=rfl
    repeat' (first | refine awp_seq ?_ | refine stp ?_ | refine blk_o (by decide) ?_ | (apply awp_condB;(focus (simp (disch:=(first | omega | (simp;omega))) only [go_sem,w64,z0];try exact rfl));first | with_reducible refine condOf_t ?_ | with_reducible refine condOf_f ?_) | (refine awp_region' tyT_ok ?_;intro K hK) | (refine awp_drawA ?_;intro K hK) | (with_reducible refine hK _ ?_;clear hK K) | (refine stq ?_;simp (disch:=(first | omega | (simp;omega))) only [go_sem,w64,z0]) | refine and_side ?_ | fail)
    (refine endA (r:=.d (.sl 1 [.sl 1 []])) ?_)
    exact ⟨rfl,rfl⟩
  | succ n ih =>
    intro k hk hn
    refine afn_of (rv:=[.tmp 6]) tyT_ok Try.func36 rfl (by decide +kernel) Try.ntmps36 rfl (by simp) ?_
    have z0:decide (((n+1:Nat):Int)=0)=false:=decide_eq_false (by omega)
    repeat' (first | refine awp_seq ?_ | refine stp ?_ | refine blk_o (by decide) ?_ | (apply awp_condB;(focus (simp (disch:=(first | omega | (simp;omega))) only [go_sem,w64,z0];try exact rfl));first | with_reducible refine condOf_t ?_ | with_reducible refine condOf_f ?_) | (refine awp_region' tyT_ok ?_;intro K hK) | (refine awp_drawA ?_;intro K hK) | (with_reducible refine hK _ ?_;clear hK K) | (refine stq ?_;simp (disch:=(first | omega | (simp;omega))) only [go_sem,w64,z0]) | refine and_side ?_ | fail)
    refine awp_loopw (fun mm s=>∃ i:Nat,mm=T+1 - i∧k≤i∧i≤T∧(i≤T - n∨i=k)∧s=mkS [(1,.d (.int (T:Nat))),(2,.d (.int ((n+1:Nat):Int))),(7,.buf 15 57 1 ((pickTo T n k i).map pkD)),(8,.d (.int (i:Nat)))] []) ?_ ?_
    · refine ⟨_,_,?_,k,rfl,Nat.le_refl _,hk,.inr rfl,rfl⟩
      have e:pickTo T n k k=[]:=by unfold pickTo;rw [Nat.sub_self];rfl
      rw [e]
      (refine sle_mk ?_ ?_ <;> simp (disch:=(first | omega | (simp;omega))) only [go_sem,w64,List.map_nil] <;> exact leafs)
    · rintro mm s ⟨i,rfl,hki,hiT,hin,rfl⟩
      have w1:IntKind.i64.wrap ((i:Int)+((n+1:Nat):Int))=((i+n+1:Nat):Int):=by rw [w64 (by omega)];omega
      have w2:IntKind.i64.wrap (((n+1:Nat):Int) - 1)=(n:Nat):=by rw [w64 (by omega)];omega
      have w3:IntKind.i64.wrap ((i:Int)+1)=((i+1:Nat):Int):=by rw [w64 (by omega)];rfl
      by_cases hc:i+n+1≤T
      · have z1:decide (((i+n+1:Nat):Int)≤(T:Nat))=true:=decide_eq_true (by omega)
        repeat' (first | refine awp_seq ?_ | refine stp ?_ | refine blk_o (by decide) ?_ | (apply awp_condB;(focus (simp (disch:=(first | omega | (simp;omega))) only [go_sem,w64,w1,z1,w2,w3];try exact rfl));first | with_reducible refine condOf_t ?_ | with_reducible refine condOf_f ?_) | (refine awp_region' tyT_ok ?_;intro K hK) | (refine awp_drawA ?_;intro K hK) | (with_reducible refine hK _ ?_;clear hK K) | (refine stq ?_;simp (disch:=(first | omega | (simp;omega))) only [go_sem,w64,w1,z1,w2,w3]) | refine and_side ?_ | fail)
        (first | refine callA (ih (i+1) (by omega) (by omega)) ?_ | refine callD (ih (i+1) (by omega) (by omega)) ?_ | refine callE (ih (i+1) (by omega) (by omega)) ?_ | refine callF (ih (i+1) (by omega) (by omega)) ?_ ?_)
        have hpl:=pickF_len T n (i+1) (by omega)
        have hp9:=pow10 (k:=i+1) hT
        have htl:=pickTo_len T n hki hiT
        have hp8:=pow10 (k:=k) hT
        have hml:((pickF T n (i+1)).map pkD).length=(pickF T n (i+1)).length:=List.length_map ..
        repeat' (first | refine awp_seq ?_ | refine stp ?_ | refine blk_o (by decide) ?_ | (apply awp_condB;(focus (simp (disch:=(first | omega | (simp;omega))) only [go_sem,w64,w1,hml];try exact rfl));first | with_reducible refine condOf_t ?_ | with_reducible refine condOf_f ?_) | (refine awp_region' tyT_ok ?_;intro K hK) | (refine awp_drawA ?_;intro K hK) | (with_reducible refine hK _ ?_;clear hK K) | (refine stq ?_;simp (disch:=(first | omega | (simp;omega))) only [go_sem,w64,w1,hml]) | refine and_side ?_ | fail)
        refine awp_loopw (fun mm s=>∃ j:Nat,mm=(pickF T n (i+1)).length - j∧j≤(pickF T n (i+1)).length∧s=mkS [(1,.d (.int (T:Nat))),(2,.d (.int ((n+1:Nat):Int))),(7,.buf 15 57 1 ((pickTo T n k i ++ ((pickF T n (i+1)).take j).map (i :: ·)).map pkD)),(8,.d (.int (i:Nat))),(9,.d (.sl 1 ((pickF T n (i+1)).map pkD))),(10,.d (.int (j:Nat)))] []) ?_ ?_
        · refine ⟨_,_,?_,0,rfl,Nat.zero_le _,rfl⟩
          (refine sle_mk ?_ ?_ <;> simp (disch:=(first | omega | (simp;omega))) only [go_sem,w64,List.take_zero,List.map_nil,List.append_nil] <;> exact leafs)
        · rintro mm s ⟨j,rfl,hj,rfl⟩
          have w4:IntKind.i64.wrap ((j:Int)+1)=((j+1:Nat):Int):=by rw [w64 (by omega)];rfl
          by_cases hc2:j<(pickF T n (i+1)).length
          · have z2:decide ((j:Int)<((pickF T n (i+1)).length:Nat))=true:=decide_eq_true (by omega)
            have g1:((pickF T n (i+1)).map pkD).getD j (.bool false)=pkD ((pickF T n (i+1))[j]):=by simp [List.getD,hc2]
            have hel:((pickF T n (i+1))[j]).length=n:=(pickF_mem T n (i+1) _ (List.getElem_mem hc2)).1
            generalize hq:(pickF T n (i+1))[j]=q at *
            have hqm:(q.map fun k:Nat=>DV.int k).length=n:=by rw [List.length_map];exact hel
            have e1:(pickF T n (i+1)).take (j+1)=(pickF T n (i+1)).take j ++ [q]:=by rw [List.take_add_one,List.getElem?_eq_getElem hc2,hq];rfl
            have hb:((pickTo T n k i ++ ((pickF T n (i+1)).take j).map (i :: ·)).map pkD).length≤16777215:=by
              rw [List.length_map,List.length_append,List.length_map,List.length_take];omega
            repeat' (first | refine awp_seq ?_ | refine stp ?_ | refine blk_o (by decide) ?_ | (apply awp_condB;(focus (simp (disch:=(first | omega | (simp;omega))) only [go_sem,w64,z2,hml,g1,pkD,hqm,hb];try exact rfl));first | with_reducible refine condOf_t ?_ | with_reducible refine condOf_f ?_) | (refine awp_region' tyT_ok ?_;intro K hK) | (refine awp_drawA ?_;intro K hK) | (with_reducible refine hK _ ?_;clear hK K) | (refine stq ?_;simp (disch:=(first | omega | (simp;omega))) only [go_sem,w64,z2,hml,g1,pkD,hqm,hb]) | refine and_side ?_ | fail)
            refine ⟨(pickF T n (i+1)).length - (j+1),_,by omega,?_,j+1,rfl,by omega,rfl⟩
            rw [e1]
            (refine sle_mk ?_ ?_ <;> simp (disch:=(first | omega | (simp;omega))) only [go_sem,w64,List.map_append,List.map_cons,List.map_nil,pkD,List.append_assoc] <;> exact leafs)
          · have z2:decide ((j:Int)<((pickF T n (i+1)).length:Nat))=false:=decide_eq_false (by omega)
            obtain rfl:j=(pickF T n (i+1)).length:=by omega
            repeat' (first | refine awp_seq ?_ | refine stp ?_ | refine blk_o (by decide) ?_ | (apply awp_condB;(focus (simp (disch:=(first | omega | (simp;omega))) only [go_sem,w64,z2,hml];try exact rfl));first | with_reducible refine condOf_t ?_ | with_reducible refine condOf_f ?_) | (refine awp_region' tyT_ok ?_;intro K hK) | (refine awp_drawA ?_;intro K hK) | (with_reducible refine hK _ ?_;clear hK K) | (refine stq ?_;simp (disch:=(first | omega | (simp;omega))) only [go_sem,w64,z2,hml]) | refine and_side ?_ | fail)
            refine ⟨T+1 - (i+1),_,by omega,?_,i+1,rfl,by omega,by omega,by omega,rfl⟩
            rw [pickTo_succ T n hki,List.take_length]
            exact sleA
      · have z1:decide (((i+n+1:Nat):Int)≤(T:Nat))=false:=decide_eq_false (by omega)
        repeat' (first | refine awp_seq ?_ | refine stp ?_ | refine blk_o (by decide) ?_ | (apply awp_condB;(focus (simp (disch:=(first | omega | (simp;omega))) only [go_sem,w64,w1,z1];try exact rfl));first | with_reducible refine condOf_t ?_ | with_reducible refine condOf_f ?_) | (refine awp_region' tyT_ok ?_;intro K hK) | (refine awp_drawA ?_;intro K hK) | (with_reducible refine hK _ ?_;clear hK K) | (refine stq ?_;simp (disch:=(first | omega | (simp;omega))) only [go_sem,w64,w1,z1]) | refine and_side ?_ | fail)
        have e:pickTo T n k i=pickF T (n+1) k:=by
          unfold pickTo
          simp only [pickF]
          congr 2
          omega
        rw [e]
        (refine endA (r:=.d (.sl 1 ((pickF T (n+1) k).map pkD))) ?_)
        exact ⟨rfl,rfl⟩
end Go.Proofs.Ytpbclpopoodklaa
