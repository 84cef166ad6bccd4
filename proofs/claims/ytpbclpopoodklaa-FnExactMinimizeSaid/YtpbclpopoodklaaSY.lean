/- Lemmas for the proof of FnExactMaximize, part 42 of 56: no condition of their own. -/
import Derived.Test.YtpbclpopoodklaaST
import Derived.Test.YtpbclpopoodklaaSW
namespace Go.Proofs.Ytpbclpopoodklaa
set_option linter.unusedSimpArgs false
set_option linter.unusedVariables false
attribute [local go_sem ↓] reduceIte
attribute [local go_sem] Nat.reduceEqDiff Nat.reduceLT Nat.reduceAdd Nat.reduceLeDiff Nat.reduceMul Nat.reduceBEq Nat.reduceSub reduceCtorEq Int.reduceLE Int.reduceNeg Int.reduceLT
open Go.RowKit
theorem sameQ_self (x:RatD):sameQ x x=true:=by simp [sameQ]
theorem eqQ_self (x:List RatD):eqQ x x=true:=by
  unfold eqQ
  simp [sameQ_self]
theorem leafF_nd {A:List (List RatD)} {B Cc:List RatD} {rows:List (List RatD)} {right:List RatD} {sg:Int} {ch:List Nat} {outs:List (List RatD)} (h:outs.Nodup):(leafF A B Cc rows right sg ch outs).Nodup:=by
  unfold leafF
  split
  · exact h
  · rename_i x hx
    split
    · split
      · exact h
      · rename_i hn
        rw [List.nodup_append]
        refine ⟨h,by simp,fun a ha b hb e=>?_⟩
        rw [List.mem_singleton.1 hb] at e
        subst e
        exact hn (List.any_eq_true.2 ⟨a,ha,eqQ_self a⟩)
    · exact h
theorem foldl_inv {α β:Type} (P:α→Prop) (f:α→β→α):∀ (l:List β) (a:α),P a→(∀ a b,b∈l→P a→P (f a b))→P (l.foldl f a)
  | [],_,h,_=>h
  | b :: l,a,h,hf=>foldl_inv P f l (f a b) (hf a b (List.mem_cons_self ..) h) fun a c hc ha=>hf a c (List.mem_cons_of_mem _ hc) ha
theorem foldl_len {α β:Type} (f:List α→β→List α) (h:∀ a b,(f a b).length≤a.length+1):∀ (l:List β) (a:List α),(l.foldl f a).length≤a.length+l.length
  | [],a=>by simp
  | b :: l,a=>by
    have h1:=foldl_len f h l (f a b)
    have h2:=h a b
    simp only [List.foldl_cons,List.length_cons]
    omega
theorem vert_pick {A:List (List RatD)} {B Cc:List RatD} {sg:Int} (h:lpV A B Cc=true):vertF A B Cc sg=(pickF (B.length+Cc.length) Cc.length 0).foldl (fun o c=>leafF A B Cc (rowsF A Cc.length) (rightF B Cc.length) sg c o) []:=by
  obtain ⟨_,_,h3,_,_⟩:=lpV_out h
  obtain ⟨h6,_⟩:=matOK_out h3
  have hrl:(rowsF A Cc.length).length=B.length+Cc.length:=by simp [rowsF,h6]
  unfold vertF
  rw [chF_pick,hrl];rfl
theorem vert_law {A:List (List RatD)} {B Cc:List RatD} {sg:Int} (h:lpV A B Cc=true):(vertF A B Cc sg).Nodup∧(∀ y∈vertF A B Cc sg,y.length=Cc.length)∧(vertF A B Cc sg).length≤1024∧Cc.length≤5:=by
  obtain ⟨⟨hC1,hC5⟩,⟨hB1,hB5⟩,_,_,_⟩:=lpV_out h
  rw [vert_pick h]
  have hpm:=pickF_mem (B.length+Cc.length) Cc.length 0
  have hpl:=pickF_len (B.length+Cc.length) Cc.length 0 (Nat.zero_le _)
  have hp10:=pow10 (T:=B.length+Cc.length) (k:=0) (by omega)
  refine ⟨foldl_inv (fun o:List (List RatD)=>o.Nodup) _ _ _ List.nodup_nil (fun a b _ ha=>leafF_nd ha),foldl_inv (fun o:List (List RatD)=>∀ y∈o,y.length=Cc.length) _ _ _ (fun (y:List RatD) (hy:y∈([]:List (List RatD)))=>by cases hy) (fun a b hb ha y hy=>?_),?_,hC5⟩
  · rcases leafF_mem A B Cc _ _ sg hy with h1 | h1
    · exact ha y h1
    · rw [h1];exact (hpm b hb).1
  · have:=foldl_len (fun o c=>leafF A B Cc (rowsF A Cc.length) (rightF B Cc.length) sg c o) (fun a b=>leafF_len A B Cc _ _ sg b a) (pickF (B.length+Cc.length) Cc.length 0) []
    simp only [List.length_nil] at this
    omega
end Go.Proofs.Ytpbclpopoodklaa
