/- Lemmas for the proof of FnMinimum, part 44 of 52: no condition of their own. -/
import Derived.Test.YtalkhmgfnmaaaaaTA
namespace Go.Proofs.Ytalkhmgfnmaaaaa
set_option linter.unusedSimpArgs false
set_option linter.unusedVariables false
open Go.RowKit
theorem vR_mk {t:Int×Int×Bool} (h:FitQ t) (ht:t.2.2=true):vR (rq t)=true:=h.1 ht
theorem dotTo_v {a b:List RatD}:∀ {k:Nat} {s:RatD},dotTo a b k=some s→vR s=true
  | 0,s,h=>by simp only [dotTo,Option.some.injEq] at h;subst h;decide +kernel
  | k+1,s,h=>by
    simp only [dotTo] at h
    split at h
    · cases h
    · split at h
      · rename_i s0 _ hc
        simp only [Option.some.injEq] at h
        subst h
        exact vR_mk (fitAdd _ _) hc.2
      · cases h
theorem dotF_v {a b:List RatD} {s:RatD} (h:dotF a b=some s):vR s=true:=by
  unfold dotF at h
  split at h
  · exact dotTo_v h
  · cases h
theorem cmpQ_lt {x y:RatD} (hx:vR x=true) (hy:vR y=true):cmpQ x y<0↔x.num*y.den<y.num*x.den:=by
  have hb:bothOK x.num x.den y.num y.den=true:=by simp only [bothOK,Bool.and_eq_true];exact ⟨hx,hy⟩
  unfold cmpQ cmpRat
  rw [if_pos hb]
  unfold cmpI
  split
  · rename_i h;exact ⟨fun _=>h,fun _=>by decide⟩
  · split
    · rename_i h1 h2;exact ⟨fun h=>absurd h (by decide),fun h=>absurd h h1⟩
    · rename_i h1 h2;exact ⟨fun h=>absurd h (by decide),fun h=>absurd h h1⟩
theorem vR_den {x:RatD} (h:vR x=true):0<x.den:=(ratOK_b h).2.2
theorem lt_tr {x y z:RatD} (hx:0<x.den) (hy:0<y.den) (hz:0<z.den) (h1:x.num*y.den<y.num*x.den) (h2:y.num*z.den≤z.num*y.den):x.num*z.den<z.num*x.den:=by
  have k1:x.num*y.den*z.den<y.num*x.den*z.den:=Int.mul_lt_mul_of_pos_right h1 hz
  have k2:y.num*z.den*x.den≤z.num*y.den*x.den:=Int.mul_le_mul_of_nonneg_right h2 (Int.le_of_lt hx)
  have e1:y.num*x.den*z.den=y.num*z.den*x.den:=by rw [Int.mul_right_comm]
  have e2:x.num*y.den*z.den=x.num*z.den*y.den:=by rw [Int.mul_right_comm]
  have e3:z.num*y.den*x.den=z.num*x.den*y.den:=by rw [Int.mul_right_comm]
  rw [e1] at k1
  have k3:x.num*z.den*y.den<z.num*x.den*y.den:=by omega
  exact Int.lt_of_mul_lt_mul_right k3 (Int.le_of_lt hy)
structure BestOK (C:List RatD) (V:List (List RatD)) (sg:Int) (b:BestS):Prop where
  at':b.found=true→b.pt∈V∧dotF C b.pt=some b.val
  best:∀ y∈V,∀ u,dotF C y=some u→b.found=true∧¬ sg*cmpQ u b.val<0
theorem cmpQ_neg {x y:RatD} (hx:vR x=true) (hy:vR y=true):(-1)*cmpQ x y<0↔y.num*x.den<x.num*y.den:=by
  have hb:bothOK x.num x.den y.num y.den=true:=by simp only [bothOK,Bool.and_eq_true];exact ⟨hx,hy⟩
  unfold cmpQ cmpRat
  rw [if_pos hb]
  unfold cmpI
  split
  · rename_i h;exact ⟨fun h=>absurd h (by decide),fun _=>by omega⟩
  · split
    · rename_i h1 h2;exact ⟨fun _=>h2,fun _=>by decide⟩
    · rename_i h1 h2;exact ⟨fun h=>absurd h (by decide),fun h=>absurd h h2⟩
theorem sg_tr {sg:Int} (hsg:sg=1∨sg = -1) {u v b:RatD} (hu:vR u=true) (hv:vR v=true) (hb:vR b=true) (h1:¬ sg*cmpQ u b<0) (h2:sg*cmpQ v b<0):¬ sg*cmpQ u v<0:=by
  have du:=vR_den hu
  have dv:=vR_den hv
  have db:=vR_den hb
  rcases hsg with rfl | rfl
  · rw [Int.one_mul,cmpQ_lt] at h1 h2 ⊢ <;> try assumption
    intro h3
    exact h1 (lt_tr du dv db h3 (Int.le_of_lt h2))
  · rw [cmpQ_neg] at h1 h2 ⊢ <;> try assumption
    intro h3
    exact h1 (lt_tr db dv du h2 (Int.le_of_lt h3))
theorem cmpQ_self (x:RatD):cmpQ x x=0:=by
  unfold cmpQ cmpRat cmpI
  split <;> simp
theorem best_ok (C:List RatD) (V:List (List RatD)) {sg:Int} (hsg:sg=1∨sg = -1):∀ i,i≤V.length→BestOK C (V.take i) sg (bestTo C V sg i)∧((bestTo C V sg i).found=false→bestTo C V sg i=best0)
  | 0,_=>by
    refine ⟨⟨fun h=>?_,fun y hy=>?_⟩,fun _=>rfl⟩
    · simp [bestTo,best0] at h
    · simp at hy
  | i+1,hi=>by
    obtain ⟨⟨h1,h2⟩,h3⟩:=best_ok C V hsg i (by omega)
    rw [bestTo_succ C sg (by omega)]
    have ht:V.take (i+1)=V.take i ++ [mx V i]:=by rw [List.take_add_one,List.getElem?_eq_getElem (by omega)];simp [mx,show i<V.length by omega]
    rw [ht]
    generalize bestTo C V sg i=b at *
    generalize mx V i=x at *
    unfold bestT
    cases hd:dotF C x with
    | none =>
      refine ⟨⟨fun h=>⟨List.mem_append_left _ (h1 h).1,(h1 h).2⟩,fun y hy u hu=>?_⟩,h3⟩
      rcases List.mem_append.1 hy with hy | hy
      · exact h2 y hy u hu
      · rw [List.mem_singleton] at hy;subst hy;rw [hd] at hu;cases hu
    | some v =>
      have hv:=dotF_v hd
      by_cases hb:b.found=false∨sg*cmpQ v b.val<0
      · simp only [hb,if_true]
        refine ⟨⟨fun _=>⟨by simp,hd⟩,fun y hy u hu=>⟨rfl,?_⟩⟩,fun h=>(by cases h)⟩
        rcases List.mem_append.1 hy with hy | hy
        · obtain ⟨g1,g2⟩:=h2 y hy u hu
          rcases hb with hb | hb
          · rw [g1] at hb;cases hb
          · exact sg_tr hsg (dotF_v hu) hv (dotF_v (h1 g1).2) g2 hb
        · rw [List.mem_singleton] at hy;subst hy;rw [hd] at hu;cases hu
          rw [cmpQ_self];omega
      · simp only [hb,if_false]
        have hf:b.found=true:=by
          cases e:b.found with
          | true=>rfl
          | false=>exact absurd (.inl e) hb
        refine ⟨⟨fun h=>⟨List.mem_append_left _ (h1 h).1,(h1 h).2⟩,fun y hy u hu=>?_⟩,h3⟩
        rcases List.mem_append.1 hy with hy | hy
        · exact h2 y hy u hu
        · rw [List.mem_singleton] at hy;subst hy;rw [hd] at hu;cases hu
          exact ⟨hf,fun h=>hb (.inr h)⟩
theorem bestF_ok (C:List RatD) (V:List (List RatD)) {sg:Int} (hsg:sg=1∨sg = -1):BestOK C V sg (bestF C V sg):=by
  have:=(best_ok C V hsg V.length (Nat.le_refl _)).1
  rwa [bestTo_all,List.take_length] at this
theorem leafF_feas {A:List (List RatD)} {B Cc:List RatD} {rows:List (List RatD)} {right:List RatD} {sg:Int} {ch:List Nat} {outs:List (List RatD)} (h:∀ y∈outs,feasF A B Cc y sg=true):∀ y∈leafF A B Cc rows right sg ch outs,feasF A B Cc y sg=true:=by
  unfold leafF
  split
  · exact h
  · rename_i x hx
    split
    · rename_i hf
      split
      · exact h
      · intro y hy
        rcases List.mem_append.1 hy with hy | hy
        · exact h y hy
        · rw [List.mem_singleton] at hy;subst hy;exact hf
    · exact h
theorem vert_feas {A:List (List RatD)} {B Cc:List RatD} {sg:Int} (h:lpV A B Cc=true):∀ y∈vertF A B Cc sg,feasF A B Cc y sg=true:=by
  rw [vert_pick h]
  exact foldl_inv (fun o:List (List RatD)=>∀ y∈o,feasF A B Cc y sg=true) _ _ _ (fun y hy=>(by cases hy)) fun a b _ ha=>leafF_feas ha
end Go.Proofs.Ytalkhmgfnmaaaaa
