/- Lemmas for the proof of FnCoverDuality, part 10 of 26: no condition of their own. -/
import Derived.Test.YtkohkoiegmcghaaDoorJ9
namespace Go.Proofs.YtkohkoiegmcghaaDoor
set_option linter.unusedSimpArgs false
set_option linter.unusedVariables false
open Go.RowKit
def KeepD (d:Option Nat) (a a1:Act):Prop:=∀ t,d ≠ some t→a1.tmps.getD t undef=a.tmps.getD t undef
theorem keepD_put (d:Option Nat) (a:Act) (v:Value):KeepD d a (a.put d v):=by
 intro t ht
 cases d with
 | none=>rfl
 | some e =>
  have hne:e ≠ t:=fun h=>ht (by rw [h])
  simp [Act.put,Array.getD_eq_getD_getElem?,Array.getElem?_setIfInBounds_ne hne]
theorem keepD_df (d:Option Nat) (a:Act) (v:Value) (x:Deferred):KeepD d a (({ a with defers:=x :: a.defers }:Act).put d v):=by
 intro t ht
 cases d with
 | none=>rfl
 | some e =>
  have hne:e ≠ t:=fun h=>ht (by rw [h])
  simp [Act.put,Array.getD_eq_getD_getElem?,Array.getElem?_setIfInBounds_ne hne]
section
variable {P:Program} {ops:Array Oper} {Q:Exit→Act→World→Prop} {i:Nat} {o:Oper} {nx nx':Act→World→Prop} {a:Act} {w:World}
theorem wpOp_keep (hi:ops[i]? = some o) (h:wpOp P ops Q i nx a w):wpOp P ops Q i (fun a1 w1=>nx a1 w1∧KeepD o.dst a a1) a w:=by
 unfold wpOp at h ⊢
 rw [hi] at h ⊢
 simp only at h ⊢
 by_cases hw:Region.wanted o (yielded ops a.tmps)=true
 ·rw [if_pos hw] at h ⊢
  rcases h with h | h
  ·left
   unfold Oper.wp at h ⊢
   cases hr:(execOp a.eval o).run P w with
   | ok n w' =>
    rw [hr] at h
    cases n with
    | value v=>exact ⟨h,keepD_put _ _ _⟩
    | skip=>exact ⟨h,keepD_put _ _ _⟩
    | defer d=>exact ⟨h,keepD_df _ _ _ _⟩
    | enter f args =>
     refine Calls.mono h ?_
     intro e w'' hh
     cases e with
     | returned v=>exact ⟨hh,keepD_put _ _ _⟩
     | panicked c=>exact hh
     | outgrown=>exact hh
    | row r args=>exact Rows.mono h fun v w'' hh=>⟨hh,keepD_put _ _ _⟩
    | _=>exact h
   | halt s w' =>
    rw [hr] at h
    cases s <;> exact h
  ·exact .inr h
 ·rw [if_neg hw] at h ⊢
  exact ⟨h,keepD_put _ _ _⟩
def OutQ (Q:Exit→Act→World→Prop):Exit→Act→World→Prop:=fun e a w=>e=.normal∧Q e a w
theorem wpOp_q (hi:ops[i]? = some o) (h:wpOp P ops (OutQ Q) i nx a w):wpOp P ops Q i nx a w:=by
 have hlo:¬ LetsOut (OutQ Q):=fun ⟨a,w,h,_⟩=>by cases h
 have hne:∀ c a w,¬ OutQ Q (.panic c) a w:=fun c a w h=>by cases h.1
 unfold wpOp at h ⊢
 rw [hi] at h ⊢
 simp only at h ⊢
 by_cases hw:Region.wanted o (yielded ops a.tmps)=true
 ·rw [if_pos hw] at h ⊢
  rcases h with h | ⟨h,hh⟩
  ·left
   unfold Oper.wp at h ⊢
   cases hr:(execOp a.eval o).run P w with
   | ok n w' =>
    rw [hr] at h
    cases n with
    | enter f args =>
     refine Calls.mono h ?_
     intro e w'' hh
     cases e with
     | returned u=>exact hh
     | panicked c=>exact (hne _ _ _ hh).elim
     | outgrown=>exact (hlo hh).elim
    | _=>exact h
   | halt s w' =>
    rw [hr] at h
    cases s with
    | panic u=>exact (hne _ _ _ h).elim
    | _=>exact h
  ·exact (hlo hh).elim
 ·rw [if_neg hw] at h ⊢
  exact h
theorem wpOp_float {o0:Oper} {v:Value} (hi:ops[i]? = some o) (hap:o0.apart ops o=true) (hsel:∀ cs b,o.op ≠ .select cs b) (h:wpOp P ops (OutQ Q) i nx (a.put o0.dst v) w) (hn:∀ a1 w1,nx (a1.put o0.dst v) w1→nx' a1 w1):wpOp P ops Q i nx' a w:=by
 obtain ⟨h1,h2,h3⟩:=Oper.apart_spec hap
 have he:execOp (a.put o0.dst v).eval o=execOp a.eval o:=execOp_put (ops:=ops) o hsel a _ v h1
 have hwt:=wanted_put (ops:=ops) o a o0.dst v h1
 have hput:∀ u,(a.put o0.dst v).put o.dst u=(a.put o.dst u).put o0.dst v:=fun u=>Act.put_comm a v u h2
 have hlo:LetsOut (OutQ Q)→LetsOut Q:=fun ⟨a,w,h,_⟩=>by cases h
 have hne:∀ c a w,¬ OutQ Q (.panic c) a w:=fun c a w h=>by cases h.1
 unfold wpOp at h ⊢
 rw [hi] at h ⊢
 simp only at h ⊢
 rw [hwt] at h
 by_cases hw:Region.wanted o (yielded ops a.tmps)=true
 ·rw [if_pos hw] at h ⊢
  rcases h with h | ⟨h,hh⟩
  ·left
   unfold Oper.wp at h ⊢
   rw [he] at h
   cases hr:(execOp a.eval o).run P w with
   | ok n w' =>
    rw [hr] at h
    cases n with
    | value u =>
     have h:nx ((a.put o0.dst v).put o.dst u) w':=h
     rw [hput] at h;exact hn _ _ h
    | skip =>
     have h:nx ((a.put o0.dst v).put o.dst undef) w':=h
     rw [hput] at h;exact hn _ _ h
    | defer d =>
     have h:nx ((({ a.put o0.dst v with defers:=d :: (a.put o0.dst v).defers }:Act)).put o.dst undef) w':=h
     rw [Act.put_defers,Act.put_comm _ v undef h2] at h;exact hn _ _ h
    | enter f args =>
     refine Calls.mono h ?_
     intro e w'' hh
     cases e with
     | returned u =>
      have hh:nx ((a.put o0.dst v).put o.dst u) w'':=hh
      rw [hput] at hh;exact hn _ _ hh
     | panicked c=>exact (hne _ _ _ hh).elim
     | outgrown=>exact hlo hh
    | row r args=>exact Rows.mono h fun u w'' hh=>by rw [hput] at hh;exact hn _ _ hh
    | _=>exact h
   | halt s w' =>
    rw [hr] at h
    cases s with
    | panic u=>exact (hne _ _ _ h).elim
    | _=>exact h
  ·refine .inr ⟨?_,hlo hh⟩
   unfold Oper.asks at h ⊢
   rw [he] at h
   exact h
 ·rw [if_neg hw] at h ⊢
  rw [hput] at h;exact hn _ _ h
end
def noSel:Op→Bool
 | .select _ _=>false
 | _=>true
def splitB (l:List Oper) (n:Nat):Bool:=match l[0]? with
 | some o0=>(List.range l.length).all fun i=>i == 0 || ((!decide (n≤i) || (List.range i).all fun j=>j == 0 || reachF l.toArray l.length i j) &&
  (reachF l.toArray l.length i 0 || match l[i]? with
   | some o=>o0.apart l.toArray o && noSel o.op
   | none=>false))
 | none=>false
section
variable {ty:TypeId→Option TyI}
theorem wp_drawSplit (ht:TabOK ty) (hm:Tryd.prog.follows .mixedOrders=true) {id:Nat} {l:List Oper} (n:Nat) {d0:Nat} {x0:Operand} {o0:Oper} (ho0:l[0]? = some o0) (hop0:o0.op=.move x0) (hd0:o0.dst=some d0) (hg0:o0.guard=none) (hn1:0<n) (hnl:n<l.length)
 (hB:drawB l ((List.range l.length).map (flAt l))=true) (hS:splitB l n=true) {X:Cx} {s:AS} {a:Act} {w:World} {Q:Exit→Act→World→Prop} {K:AS→Prop} (hr:Rel X s (a.put (some d0) (a.eval x0)) w.drew) (hw:wops ty X.N l ((l.take n).drop 1) 1 s K)
 (hs:∀ s1 a1 w1,K s1→Rel X s1 a1 w1→(∀ t,(∀ o∈(l.take n).drop 1,o.dst ≠ some t)→a1.tmps.getD t undef=(a.put (some d0) (a.eval x0)).tmps.getD t undef)→wpList Tryd.prog l.toArray (OutQ Q) (l.drop n) a1 w1):(Code.region id l.toArray true).wp Tryd.prog Q a w:=by
 have hwo:=wops_ok (ty:=ty) (N:=X.N) (ops:=l) (fls:=(List.range l.length).map (flAt l)) (fun i hi=>by simp [List.getD,hi]) ((l.take n).drop 1) 1 s (K:=K) (fun j hj=>by
  simp only [List.length_drop,List.length_take] at hj
  rw [List.getElem?_drop,List.getElem?_take_of_lt (by omega)]) hw
 have hlt:((l.take n).drop 1).length=n - 1:=by simp only [List.length_drop,List.length_take];omega
 rw [hlt] at hwo
 generalize hfl:(List.range l.length).map (flAt l)=fls at hB hwo
 have hchk:∀ i o,l[i]? = some o→(∀ e∈o.after,Region.binds .any e=true→e.on<i)∧∀ j,j<i→reachF l.toArray l.length i j=true∨∀ p,l[j]? = some p→Ind l (fls.getD j []) (fls.getD i []) p o:=by
  intro i o ho
  have hi:=(List.getElem?_eq_some_iff.1 ho).1
  have:=List.all_eq_true.1 hB i (List.mem_range.2 hi)
  rw [ho] at this
  simp only [Bool.and_eq_true] at this
  refine ⟨fun e he hb=>?_,fun j hj=>?_⟩
  ·have h1:=List.all_eq_true.1 this.1 e (by simpa using he)
   rw [hb] at h1
   simpa using h1
  ·have h1:=List.all_eq_true.1 this.2 j (List.mem_range.2 hj)
   simp only [Bool.or_eq_true] at h1
   rcases h1 with h1 | h1
   ·exact .inl h1
   ·refine .inr fun p hp=>?_
    rw [hp] at h1
    exact ind_of h1
 have hsp:∀ i o,l[i]? = some o→i ≠ 0→(n≤i→∀ j,0<j→j<i→reachF l.toArray l.length i j=true)∧(reachF l.toArray l.length i 0=true∨o0.apart l.toArray o=true∧∀ cs b,o.op ≠ .select cs b):=by
  intro i o ho hi0
  have hi:=(List.getElem?_eq_some_iff.1 ho).1
  unfold splitB at hS
  rw [ho0] at hS
  have:=List.all_eq_true.1 hS i (List.mem_range.2 hi)
  rw [ho] at this
  simp only [Bool.or_eq_true,Bool.and_eq_true,beq_iff_eq] at this
  rcases this with h1 | ⟨h1,h2⟩
  ·exact absurd h1 hi0
  ·refine ⟨fun hni j hj0 hji=>?_,?_⟩
   ·rcases h1 with h1 | h1
    ·simp at h1;omega
    ·have:=List.all_eq_true.1 h1 j (List.mem_range.2 hji)
     simp only [Bool.or_eq_true,beq_iff_eq] at this
     rcases this with h | h
     ·omega
     ·exact h
   ·rcases h2 with h2 | ⟨h2,h3⟩
    ·exact .inl h2
    ·refine .inr ⟨h2,fun cs b e=>?_⟩
     rw [e] at h3;cases h3
 let va:(Nat→Bool)→Act→Act:=fun d a'=>if d 0=true then a' else a'.put (some d0) (a'.eval x0)
 let pend:(Nat→Bool)→List Nat:=fun d=>(List.range n).filter fun j=>!d j && !(j == 0)
 refine wp_region_inv hm (fun d a' w'=>((∀ i,n≤i→d i=false)∧(∃ s1,Rel X s1 (va d a') w'∧aopsD ty X.N l fls (pend d) s1 K)∧∀ t,(∀ o∈(l.take n).drop 1,o.dst ≠ some t)→(va d a').tmps.getD t undef=(a.put (some d0) (a.eval x0)).tmps.getD t undef) ∨
  (∃ m,n<m∧m≤l.length∧(∀ j,0<j→(d j=true↔j<m))∧wpList Tryd.prog l.toArray (OutQ Q) (l.drop m) (va d a') w')) (fun i o ho=>(hchk i o (by simpa using ho)).1) ?_ ?_ ?_
 ·refine .inl ⟨fun _ _=>rfl,⟨s,hr,?_⟩,fun t _=>rfl⟩
  have:pend (fun _=>false)=List.range' 1 (n - 1):=by
   show (List.range n).filter (fun j=>!false && !(j == 0))=_
   obtain ⟨m,rfl⟩:∃ m,n=m+1:=⟨n - 1,by omega⟩
   rw [List.range_succ_eq_map,List.filter_cons_of_neg (by simp),List.filter_eq_self.2 (by simp),List.range'_eq_map_range]
   simp [Nat.add_comm]
  rw [this];exact hwo
 ·rintro d a' w' i o ho2 hd hdeps hcl hbig hI
  have ho':l[i]? = some o:=by simpa using ho2
  have hi:=(List.getElem?_eq_some_iff.1 ho').1
  have hreach:∀ j,reachF l.toArray l.length i j=true→d j=true:=fun j hj=>reachF_done (ops:=l.toArray) hcl l.length i j (fun o' h2=>by rw [ho2] at h2;cases h2;exact hdeps) hj
  by_cases hi0:i=0
  ·subst hi0
   obtain rfl:o0=o:=by rw [ho0] at ho';exact Option.some.inj ho'
   unfold wpOp
   rw [ho2]
   simp only
   rw [if_pos (by simp [Region.wanted,hg0])]
   left
   unfold Oper.wp
   rw [show (execOp a'.eval o0).run Tryd.prog w'=.ok (.value (a'.eval x0)) w' by simp [execOp,hop0]]
   simp only [Oper.upon]
   rw [hd0]
   have e1:va (fun j=>if j=0 then true else d j) (a'.put (some d0) (a'.eval x0))=va d a':=by simp [va,hd]
   have e2:pend (fun j=>if j=0 then true else d j)=pend d:=by
    apply List.filter_congr
    intro x _
    by_cases ex:x=0
    ·simp [ex]
    ·simp [ex]
   rcases hI with ⟨h1,⟨s1,h2,h3⟩,h4⟩ | ⟨m,h1,h2,h3,h4⟩
   ·refine .inl ⟨fun j hj=>by simp only [show ¬ j=0 by omega,if_false];exact h1 j hj,⟨s1,by rw [e1];exact h2,by rw [e2];exact h3⟩,by rw [e1];exact h4⟩
   ·refine .inr ⟨m,h1,h2,fun j hj=>by simp only [show ¬ j=0 by omega,if_false];exact h3 j hj,by rw [e1];exact h4⟩
  ·obtain ⟨hs1,hs2⟩:=hsp i o ho' hi0
   have h0i:¬ 0=i:=fun e=>hi0 e.symm
   have hdi:∀ a2,va (fun j=>if j=i then true else d j) a2=va d a2:=fun a2=>by simp only [va,if_neg h0i]
   have key:∀ (nx:Act→World→Prop),wpOp Tryd.prog l.toArray (OutQ Q) i nx (va d a') w'→wpOp Tryd.prog l.toArray Q i (fun a2 w2=>nx (va d a2) w2) a' w':=by
    intro nx hnx
    cases hd00:d 0 with
    | true =>
     have e1:va d a'=a':=by simp [va,hd00]
     rw [e1] at hnx
     have e2:(fun a2 w2=>nx (va d a2) w2)=nx:=by
      funext a2 w2
      simp [va,hd00]
     rw [e2];exact wpOp_q ho2 hnx
    | false =>
     rcases hs2 with h | ⟨hap,hsel⟩
     ·have:=hreach 0 h
      rw [hd00] at this;cases this
     ·have e1:va d a'=a'.put o0.dst (a'.eval x0):=by simp [va,hd00,hd0]
      rw [e1] at hnx
      have hx0:∀ a1:Act,KeepD o.dst a' a1→a1.eval x0=a'.eval x0:=fun a1 h1=>by
       cases x0 with
       | tmp t =>
        refine h1 t fun e=>?_
        have:=(Oper.apart_spec hap).2.2 t e
        refine this (List.mem_append_left _ (List.mem_filterMap.2 ⟨.tmp t,?_,rfl⟩))
        rw [hop0];simp [Op.operands]
       | _=>rfl
      have hf:=wpOp_float (P:=Tryd.prog) (ops:=l.toArray) (Q:=Q) (nx':=fun a2 w2=>nx (a2.put o0.dst (a'.eval x0)) w2) ho2 hap hsel hnx (fun a1 w1 h=>h)
      have hf2:=wpOp_keep ho2 hf
      refine wpOp_mono ?_ hf2
      rintro a2 w2 ⟨h1,h2⟩
      have:va d a2=a2.put o0.dst (a'.eval x0):=by simp only [va,hd00,hd0,Bool.false_eq_true,if_false];rw [hx0 a2 h2]
      rw [this];exact h1
   have suf:∀ m,m=i→n≤m→(∀ j,0<j→j<m→d j=true)→(∀ j,m≤j→d j=false)→wpList Tryd.prog l.toArray (OutQ Q) (l.drop m) (va d a') w'→wpOp Tryd.prog l.toArray Q i (fun a'' w''=>((∀ i_1,n≤i_1→(if i_1=i then true else d i_1)=false)∧(∃ s1,Rel X s1 (va (fun j=>if j=i then true else d j) a'') w''∧aopsD ty X.N l fls (pend fun j=>if j=i then true else d j) s1 K)∧∀ t,(∀ o∈(l.take n).drop 1,o.dst ≠ some t)→(va (fun j=>if j=i then true else d j) a'').tmps.getD t undef=(a.put (some d0) (a.eval x0)).tmps.getD t undef)∨(∃ m,n<m∧m≤l.length∧(∀ j,0<j→((if j=i then true else d j)=true↔j<m))∧wpList Tryd.prog l.toArray (OutQ Q) (l.drop m) (va (fun j=>if j=i then true else d j) a'') w'')) a' w':=by
    rintro m rfl hnm hall hnone hwp
    have hdrop:l.drop m=o :: l.drop (m+1):=by
     obtain ⟨h1,h2⟩:=List.getElem?_eq_some_iff.1 ho'
     rw [← h2,List.getElem_cons_drop h1]
    rw [hdrop] at hwp
    have hop:wpOp Tryd.prog l.toArray (OutQ Q) m (wpList Tryd.prog l.toArray (OutQ Q) (l.drop (m+1))) (va d a') w':=by
     unfold wpOp;rw [ho2];exact hwp
    refine wpOp_mono ?_ (key _ hop)
    intro a2 w2 h
    refine .inr ⟨m+1,by omega,by omega,fun j hj=>?_,by rw [hdi];exact h⟩
    by_cases e:j=m
    ·simp [e]
    ·rw [if_neg e]
     constructor
     ·intro hdj
      refine Nat.lt_succ_of_lt (Nat.lt_of_not_le fun hle=>?_)
      rw [hnone j hle] at hdj;cases hdj
     ·intro hlt;exact hall j hj (by omega)
   rcases hI with ⟨h1,⟨s1,⟨G1,h2⟩,h3⟩,h4⟩ | ⟨m,h1,h2,h3,h4⟩
   ·by_cases hin:i<n
    ·obtain ⟨post,e1,e2⟩:=filter_split (fun j=>!d j && !(j == 0)) n i hin (by simp [hd,hi0])
     have h3':aopsD ty X.N l fls ((List.range n).filter fun j=>!d j && !(j == 0)) s1 K:=h3
     rw [e1] at h3'
     have hfr:=front (ty:=ty) (N:=X.N) ht ho' _ s1 (fun j hj p hp=>by
      obtain ⟨hj1,hj2⟩:=List.mem_filter.1 hj
      have hji:j<i:=List.mem_range.1 hj1
      rcases (hchk i o ho').2 j hji with h1 | h1
      ·exfalso
       rw [hreach j h1] at hj2;simp at hj2
      ·exact h1 p hp) h3'
     have hst:=stepD_ok (Q:=OutQ Q) (nx:=fun a2 w2=>∃ s2,aopsD ty X.N l fls ((List.range i).filter (fun j=>!d j && !(j == 0)) ++ post) s2 K∧Rel X s2 a2 w2) ht rfl h2 ho' hfr (fun s2 a2 w2 h5 h6=>⟨s2,h5,h6⟩)
     refine wpOp_mono ?_ (key _ (wpOp_keep ho2 hst))
     rintro a2 w2 ⟨⟨s2,h5,h6⟩,h7⟩
     refine .inl ⟨fun j hj=>?_,⟨s2,by rw [hdi];exact h6,?_⟩,fun t htt=>?_⟩
     ·show (if j=i then true else d j)=false
      rw [if_neg (show ¬ j=i by omega)];exact h1 j hj
     ·have e3:pend (fun j=>if j=i then true else d j)=(List.range n).filter (fun j=>(fun j=>!d j && !(j == 0)) j && !(j == i)):=by
       apply List.filter_congr
       intro x _
       by_cases ex:x=i
       ·simp [ex]
       ·simp [ex]
      rw [e3,e2];exact h5
     ·rw [hdi,h7 t (htt o ?_),h4 t htt]
      refine List.mem_iff_getElem?.2 ⟨i - 1,?_⟩
      rw [List.getElem?_drop,List.getElem?_take_of_lt (by omega),show 1+(i - 1)=i by omega]
      exact ho'
    ·have hni:n=i:=by
      refine Nat.le_antisymm (by omega) (Nat.le_of_not_lt fun hlt=>?_)
      have:=hreach n (hs1 (by omega) n hn1 hlt)
      rw [h1 n (Nat.le_refl _)] at this;cases this
     have hall:∀ j,0<j→j<n→d j=true:=fun j hj hjn=>hreach j (hs1 (by omega) j hj (by omega))
     have e0:pend d=[]:=by
      show (List.range n).filter (fun j=>!d j && !(j == 0))=[]
      rw [List.filter_eq_nil_iff]
      intro x hx
      by_cases ex:x=0
      ·simp [ex]
      ·simp [hall x (by omega) (List.mem_range.1 hx)]
     rw [e0] at h3
     exact suf n hni (Nat.le_refl _) hall h1 (hs s1 (va d a') w' h3 ⟨G1,h2⟩ h4)
   ·have hmi:m=i:=by
     have hi1:¬ i<m:=fun hlt=>by
      have:=(h3 i (by omega)).2 hlt
      rw [hd] at this;cases this
     refine Nat.le_antisymm (by omega) (Nat.le_of_not_lt fun hlt=>?_)
     have:=(h3 m (by omega)).1 (hreach m (hs1 (by omega) m (by omega) hlt))
     omega
    refine suf m hmi (by omega) (fun j hj hjm=>(h3 j hj).2 hjm) (fun j hj=>?_) h4
    cases hdj:d j with
    | false=>rfl
    | true=>have:=(h3 j (by omega)).1 hdj;omega
 ·rintro d a' w' hall hbig hI
  have hall:∀ i,i<l.length→d i=true:=fun i hi=>hall i (by simpa using hi)
  rcases hI with ⟨h1,_⟩ | ⟨m,h1,h2,h3,h4⟩
  ·have:=h1 n (Nat.le_refl _)
   rw [hall n hnl] at this;cases this
  ·have hml:m=l.length:=by
    refine Nat.le_antisymm h2 (Nat.le_of_not_lt fun hlt=>?_)
    have:=(h3 m (by omega)).1 (hall m hlt)
    omega
   subst hml
   have e1:va d a'=a':=by simp [va,hall 0 (by omega)]
   rw [List.drop_length,e1] at h4
   exact h4.2
end
theorem nb_ex (b:Nat):∃ o:Nat,o=1000000+(1000000+b):=⟨_,rfl⟩
noncomputable def nb (b:Nat):Nat:=Classical.choose (nb_ex b)
theorem nb_eq (b:Nat):nb b=1000000+(1000000+b):=Classical.choose_spec (nb_ex b)
theorem nb_ne {i o:Nat} (h:o≤1000000):(nb i=o)=False:=by rw [nb_eq];exact eq_false (by omega)
theorem ne_nb {i o:Nat} (h:o≤1000000):(o=nb i)=False:=by rw [nb_eq];exact eq_false (by omega)
theorem nb_inj {i j:Nat}:(nb i=nb j)=(i=j):=by rw [nb_eq,nb_eq];exact propext ⟨fun h=>by omega,fun h=>by omega⟩
theorem nb_beq {i o:Nat} (h:o≤1000000):(nb i == o)=false:=by rw [beq_eq_false_iff_ne,nb_eq];omega
theorem beq_nb {i o:Nat} (h:o≤1000000):(o == nb i)=false:=by rw [beq_eq_false_iff_ne,nb_eq];omega
def NamedB (X:Cx):Prop:=∀ b,X.A (1000000+b)=b
def hdV (b n c:Nat):DV:=.hv (.slice (some ⟨b,0,none⟩) n c)
noncomputable def rowSt (ob:Nat→Option (List AV)) (sx:Nat→AV) (tr b c n:Nat) (cells:List AV):AS :=
 ⟨fun t=>if t=tr then .d (hdV b n c) else scrub (fun _=>true) (fun o=>!(o == nb b)) (sx t),fun o=>if o=nb b then some cells else (ob o).map (List.map (scrub (fun _=>true) (fun o=>!(o == nb b))))⟩
theorem rel_row {X X':Cx} {G1 G2:Gh} {s s1:AS} {a a2:Act} {w1 w2:World} {sx:Nat→AV} {tr g k:Nat} {T:TypeId} {row:List DV} (hr:RelG X G1 s a w1) (hX0:X'.w0=w1) (hXL:∀ b,¬ X'.L b) (hXN:X'.N=X.N) (h2:RelG X' G2 s1 a2 w2)
 (htr:tr<X.N) (hb:s1.tm tr=.buf g T k row) (hne:row ≠ []) (hk:0<k) (hel:elemsOK k row=true) (hint:(flatD row).all isIntD=true) (hkeep:∀ t,t<X.N→t ≠ tr→CV G1 w1 (sx t) (a2.tmps.getD t undef)) (hA:NamedB X) :
 ∃ b c,s.ob (nb b)=none∧row.length≤c∧c≤maxLen∧Rel X (rowSt s.ob sx tr b c row.length ((flatD row).map .d)) a2 w2:=by
 have hbv:=h2.tm tr (by rw [hXN];exact htr)
 rw [hb] at hbv
 obtain ⟨h5,h6,h7,h8⟩:=hbv
 obtain ⟨a0,n,c0,vs,e1,e2,e3⟩:=h2.bf g
 obtain ⟨a',n',c',vs',e4,e5,e6,e7⟩:=wh_sl h8
 rw [h5,e1] at e4
 simp only [List.cons.injEq,Value.slice.injEq,and_true] at e4
 obtain ⟨rfl,rfl,rfl⟩:=e4
 have hn:0<n:=by rw [← e5];exact List.length_pos_iff.2 hne
 obtain ⟨b0,rfl,hg1,hg2⟩:=e2.head hn
 obtain ⟨b7,off7,ha7,hc7⟩:=e7.2.2.2.2.2 hn
 simp only [Option.some.injEq,Addr.mk.injEq,and_true] at ha7
 obtain ⟨rfl,rfl⟩:=ha7
 rw [hX0] at hg1
 have hfl:=cxk_flat hel e6
 have hblk:∀ b,b<w1.heap.size→w2.heap[b]? = w1.heap[b]?:=fun b hb=>by
  have:=h2.fr.block b (by rw [hX0];exact hb) (hXL b)
  rw [hX0] at this;exact this
 have hsz:w1.heap.size≤w2.heap.size:=by have:=h2.fr.size;rw [hX0] at this;exact this
 have hadlt:∀ q,s.ob q ≠ none→G1.ad q<w1.heap.size:=fun q hq=>by
  cases e:s.ob q with
  | none=>exact absurd e hq
  | some l=>exact (hr.ob q l e).1
 have hnone:s.ob (nb b0)=none:=by
  cases e:s.ob (nb b0) with
  | none=>rfl
  | some l =>
   have hq:s.ob (nb b0) ≠ none:=by rw [e];exact fun x=>(by cases x)
   have h1:=hadlt _ hq
   have h3:=hr.ln (1000000+b0) (by rw [← nb_eq];exact hq)
   rw [hA,← nb_eq] at h3
   omega
 have hbufb:∀ g b,(G1.hd g).ownBlock=some b→b<w1.heap.size:=fun g b hb=>by
  obtain ⟨a0,n0,c0,vs,e1,e2,_⟩:=hr.bf g
  exact (e2.1.lt b (by rw [← e1];exact hb)).2
 refine ⟨b0,c0,hnone,by rw [e5];exact e7.2.1,e7.2.2.1,?_⟩
 let G3:Gh:=⟨G1.C,G1.hd,G1.hT,G1.hk,fun q=>if q=nb b0 then b0 else G1.ad q⟩
 have hgle:GLe (fun _=>true) (fun o=>!(o == nb b0)) G1 G3 w1 w2:=⟨fun b i hc=>⟨hc,World.cell?_of_block (w:=w1) (hblk b (hr.cs b i hc))⟩,fun _ _=>⟨rfl,rfl,rfl⟩,fun o ho=>by
  have:o ≠ nb b0:=by simpa using ho
  simp [G3,this]⟩
 have had:∀ q,s.ob q ≠ none→G3.ad q=G1.ad q:=fun q hq=>by
  have:q ≠ nb b0:=fun e=>hq (by rw [e];exact hnone)
  simp [G3,this]
 have hobs:∀ q l,(rowSt s.ob sx tr b0 c0 row.length ((flatD row).map .d)).ob q=some l→(q=nb b0∧l=(flatD row).map .d)∨(q ≠ nb b0∧∃ l',s.ob q=some l'∧l=List.map (scrub (fun _=>true) (fun o=>!(o == nb b0))) l'):=fun q l hq=>by
  simp only [rowSt] at hq
  split at hq
  ·rename_i e;cases hq;exact .inl ⟨e,rfl⟩
  ·rename_i e
   cases e2:s.ob q with
   | none=>rw [e2] at hq;cases hq
   | some l'=>rw [e2] at hq;cases hq;exact .inr ⟨e,l',rfl,rfl⟩
 have hobn:∀ q,(rowSt s.ob sx tr b0 c0 row.length ((flatD row).map .d)).ob q ≠ none→(q=nb b0∧G3.ad q=b0)∨(q ≠ nb b0∧s.ob q ≠ none∧G3.ad q=G1.ad q):=fun q hq=>by
  cases e:(rowSt s.ob sx tr b0 c0 row.length ((flatD row).map .d)).ob q with
  | none=>exact absurd e hq
  | some l =>
   rcases hobs q l e with ⟨h1,_⟩ | ⟨h1,l',h3,_⟩
   ·exact .inl ⟨h1,by simp [G3,h1]⟩
   ·have:s.ob q ≠ none:=by rw [h3];exact fun x=>(by cases x)
    exact .inr ⟨h1,this,had q this⟩
 refine ⟨G3,⟨h2.fr.os.trans (by rw [hX0];exact hr.fr.os),h2.fr.tape.trans (by rw [hX0];exact hr.fr.tape),h2.fr.output.trans (by rw [hX0];exact hr.fr.output),Nat.le_trans hr.fr.size hsz,fun b hb hl=>(hblk b (Nat.lt_of_lt_of_le hb hr.fr.size)).trans (hr.fr.block b hb hl)⟩,h2.df,by rw [h2.n,hXN],fun t ht=>?_,fun q=>?_,fun q l hq=>?_,fun b i hc=>Nat.lt_of_lt_of_le (hr.cs b i hc) hsz,hr.d1,fun q q' h1 h3 e=>?_,fun q g' h1=>?_,fun q h1=>?_,hr.lc,hr.nl,fun i h1=>?_,hr.c0,fun b i hc hz=>?_⟩
 ·show CV G3 w2 (if t=tr then _ else _) _
  by_cases e:t=tr
  ·subst e
   rw [if_pos rfl,h5,e1,← e5]
   exact ⟨[_],⟨rfl,rfl⟩,.inr ⟨fun m e=>(by cases e),rfl⟩⟩
  ·rw [if_neg e]
   exact CV.scrub hgle _ _ (hkeep t ht e)
 ·obtain ⟨a9,n9,c9,vs9,q1,q2,q3⟩:=hr.bf q
  refine ⟨a9,n9,c9,vs9,q1,⟨⟨q2.1.1,?_⟩,q2.2⟩,q3⟩
  rcases q2.1.2 with p1 | ⟨g0,cap,cur,p1,p2,p3,p4⟩
  ·exact .inl p1
  ·refine .inr ⟨g0,cap,cur,p1,p2,?_,p4⟩
   rw [hblk g0 (Array.getElem?_eq_some_iff.1 p3).1]
   exact p3
 ·rcases hobs q l hq with ⟨rfl,rfl⟩ | ⟨h1,l',h3,rfl⟩
  ·have hadb:G3.ad (nb b0)=b0:=by simp [G3]
   refine ⟨by rw [hadb];exact hg2,fun i hc=>?_,vs',ints_cvs hint hfl,e7.2.2.2.2.1,fun i u hu=>?_⟩
   ·rw [hadb] at hc
    have:=hr.cs b0 i hc
    omega
   ·have:=hc7 i u hu
    rw [hadb]
    rw [Nat.zero_add] at this
    exact ⟨this.2,h2.uf b0 i this.1 (by rw [hX0];exact hg1)⟩
  ·obtain ⟨g1,g2,us,g3,g4,g5⟩:=hr.ob q l' h3
   have hq0:s.ob q ≠ none:=by rw [h3];exact fun x=>(by cases x)
   have e8:=had q hq0
   refine ⟨by rw [e8];exact Nat.lt_of_lt_of_le g1 hsz,fun i hc=>?_,us,?_,g4,fun i u hu=>?_⟩
   ·rw [e8] at hc;exact g2 i hc
   ·rw [← scrubs_map];exact CVs.scrub hgle _ _ g3
   ·rw [e8,World.cell?_of_block (w:=w1) (hblk _ g1),World.frozen?_of_block (w:=w1) (hblk _ g1)]
    exact g5 i u hu
 ·rcases hobn q h1 with ⟨p1,p2⟩ | ⟨p1,p2,p3⟩
  ·rcases hobn q' h3 with ⟨r1,r2⟩ | ⟨r1,r2,r3⟩
   ·exact p1.trans r1.symm
   ·have:=hadlt q' r2;rw [p2,r3] at e;omega
  ·rcases hobn q' h3 with ⟨r1,r2⟩ | ⟨r1,r2,r3⟩
   ·have:=hadlt q p2;rw [p3,r2] at e;omega
   ·rw [p3,r3] at e;exact hr.d2 q q' p2 r2 e
 ·rcases hobn q h1 with ⟨p1,p2⟩ | ⟨p1,p2,p3⟩
  ·rw [p2]
   intro e
   have:=hbufb g' _ e
   omega
  ·rw [p3];exact hr.d3 q g' p2
 ·rcases hobn q h1 with ⟨p1,p2⟩ | ⟨p1,p2,p3⟩
  ·rw [p2]
   have:=hr.fr.size
   exact ⟨fun hlt=>by rw [p1,nb_eq] at hlt;omega,.inl (by omega)⟩
  ·rw [p3];exact hr.ow q p2
 ·rcases hobn _ h1 with ⟨p1,p2⟩ | ⟨p1,p2,p3⟩
  ·rw [p2]
   rw [nb_eq] at p1
   have:i=1000000+b0:=by omega
   rw [this,hA]
  ·rw [p3];exact hr.ln i p2
 ·show w2.frozen? ⟨b,i,none⟩=false
  rw [World.frozen?_of_block (w:=w1) (hblk b (hr.cs b i hc))]
  exact hr.uf b i hc hz
theorem rel_bare {X:Cx} {G:Gh} {s:AS} {a:Act} {w:World} (h:RelG X G s a w):∃ X':Cx,X'.w0=w∧(∀ b,¬ X'.L b)∧X'.N=X.N∧Rel X' ⟨fun t=>scrub (fun _=>false) (fun _=>false) (s.tm t),fun _=>none⟩ a w:=by
 let G':Gh:=⟨G.C,fun _=>.slice none 0 0,fun _=>0,fun _=>0,G.ad⟩
 have hgle:GLe (fun _=>false) (fun _=>false) G G' w w:=⟨fun b i hc=>⟨hc,rfl⟩,fun _ h=>(by cases h),fun _ h=>(by cases h)⟩
 refine ⟨⟨w,fun _=>False,G.C,X.N,fun _=>0,fun _ h=>h.elim,h.cs⟩,rfl,fun _ h=>h,rfl,G',⟨rfl,rfl,rfl,Nat.le_refl _,fun _ _ _=>rfl⟩,h.df,h.n,fun t ht=>CV.scrub hgle _ _ (h.tm t ht),fun g=>⟨none,0,0,[],rfl,ownF_nil _ _ _ _,fun b hb=>by cases hb⟩,fun o l ho=>(by cases ho),h.cs,fun g g' _ _=>rfl,fun o o' ho=>absurd rfl ho,fun o g ho=>absurd rfl ho,fun o ho=>absurd rfl ho,fun b i hc _=>hc,fun b i _ hl=>hl,fun i ho=>absurd rfl ho,fun b i hc=>hc,fun b i hc hz=>?_⟩
 have:=h.cs b i hc
 have hz:w.heap.size≤b:=hz
 omega
section
variable {P:Cx→Prop} {N:Nat} {Q:Exit→AS→Prop} {s:AS} {ty:TypeId→Option TyI}
def keptT (ds:List Nat) (d0:Nat) (x0:AV) (s:AS):Nat→AV:=fun t=>if t=d0 then x0 else if ds.contains t=true then .junk else s.tm t
def dstIn (ds:List Nat) (o:Oper):Bool:=match o.dst with
 | some t=>ds.contains t
 | none=>true
theorem awp_drawRow (ds:List Nat) (ht:TabOK ty) (hm:Tryd.prog.follows .mixedOrders=true) {id:Nat} {l:List Oper} (n tr:Nat) {d0:Nat} {x0:Operand} {o0:Oper} (ho0:l[0]? = some o0) (hop0:o0.op=.move x0) (hd0:o0.dst=some d0) (hg0:o0.guard=none) (hn1:0<n) (hnl:n<l.length)
 (hB:drawB l ((List.range l.length).map (flAt l))=true) (hS:splitB l n=true) (hdN:d0<N) (htN:tr<N) (hds:((l.take n).drop 1).all (dstIn ds)=true) (hd0n:ds.contains d0=false) {s':AS} (hle:SLe ⟨fun t=>scrub (fun _=>false) (fun _=>false) (s.tm t),fun _=>none⟩ s') (hj:s'.tm d0=.junk) (hA:∀ X,P X→NamedB X)
 (h:∀ K0:AS→Prop,(∀ s,Q .normal s→K0 s)→∀ K:AS→Prop,(∀ s1,(∃ g T k row,s1.tm tr=.buf g T k row∧row ≠ []∧0<k∧elemsOK k row=true∧(flatD row).all isIntD=true ∧
  ∀ b c,s.ob (nb b)=none→row.length≤c→c≤maxLen→aops ty N l (l.drop n) (rowSt s.ob (keptT ds d0 (ev N s x0) s) tr b c row.length ((flatD row).map .d)) K0)→K s1)→wops ty N l ((l.take n).drop 1) 1 s' K):AWp P N (.region id l.toArray true) Q s:=by
 intro X a w hN hP ⟨G,hr⟩
 subst hN
 have hrd:=hr.drew
 obtain ⟨X',hX0,hXL,hXN,hr'⟩:=rel_bare hrd
 have hr2:=hr'.weak hle
 have hr3:Rel X' s' (a.put (some d0) (a.eval x0)) w.drew:=by
  obtain ⟨G',q⟩:=hr2
  have:=q.put d0 (x:=.junk) (v:=a.eval x0) trivial
  have e:s'.put d0 .junk=s':=by
   unfold AS.put
   have:(fun t=>if t=d0 then AV.junk else s'.tm t)=s'.tm:=by
    funext t
    by_cases e:t=d0
    ·rw [if_pos e,e,hj]
    ·rw [if_neg e]
   rw [this]
  rw [e] at this
  exact ⟨G',this⟩
 refine wp_drawSplit ht hm n ho0 hop0 hd0 hg0 hn1 hnl hB hS hr3 (by rw [hXN];exact h (Q .normal) (fun _ h=>h) _ fun _ h=>h) ?_
 rintro s1 a1 w1 ⟨g,T,k,row,g1,g2,g3,g4,g5,g6⟩ ⟨G2,h2⟩ hk
 have hkp:∀ t,t<X.N→t ≠ tr→CV G w.drew (keptT ds d0 (ev X.N s x0) s t) (a1.tmps.getD t undef):=fun t htt hne=>by
  unfold keptT
  by_cases e:t=d0
  ·rw [if_pos e,hk t fun o ho e2=>by
    have:=List.all_eq_true.1 hds o ho
    simp only [dstIn,e2,e,hd0n] at this
    cases this]
   have:(a.put (some d0) (a.eval x0)).tmps.getD t undef=a.eval x0:=by
    subst e
    simp [Act.put,Array.getD_eq_getD_getElem?,show t<a.tmps.size by rw [hr.n];exact htt]
   rw [this]
   exact hrd.ev x0
  ·rw [if_neg e]
   by_cases e5:ds.contains t=true
   ·rw [if_pos e5];trivial
   ·rw [if_neg e5,hk t fun o ho e2=>e5 (by have:=List.all_eq_true.1 hds o ho;simp only [dstIn,e2] at this;exact this)]
    have:(a.put (some d0) (a.eval x0)).tmps.getD t undef=a.tmps.getD t undef:=keepD_put _ _ _ t (fun h=>e (by cases h;rfl))
    rw [this]
    exact hrd.tm t htt
 obtain ⟨b,c,e1,e2,e3,hrel⟩:=rel_row (sx:=keptT ds d0 (ev X.N s x0) s) hrd hX0 hXL hXN h2 htN g1 g2 g3 g4 g5 hkp (hA X hP)
 exact aops_ok (X:=X) ht (Q:=OutQ fun e a' w'=>∃ s',Q e s'∧Rel X s' a' w') (fun s' _ _ h1 h2=>⟨rfl,s',h1,h2⟩) _ _ a1 w1 (g6 b c e1 e2 e3) hrel
end
theorem cvs_ad {G:Gh} {w:World} (f:Nat→Nat):∀ (l:List DV) (vs:List Value),CVs G w (l.map AV.d) vs→CVs { G with ad:=f } w (l.map AV.d) vs
 | [],_,h=>h
 | x :: l,_,h=>by
  obtain ⟨v,us,rfl,q1,q2⟩:=h
  exact ⟨v,us,rfl,q1,cvs_ad f l _ q2⟩
theorem afn_ofN {f N:Nat} {fn:Func} {c:Code} {args:List DV} {R:AV→List (List AV)→Prop} {ty:TypeId→Option TyI} {rv:List ResultVar} (ht:TabOK ty) (hf:Tryd.prog.funcs[f]? = some fn) (hb:fn.body=some c) (hnm:(fn.name == "runtime.NumGoroutine")=false)
 (hN:fn.ntmps=N) (hrv:fn.results.toList=rv) (hargs:(args.map AV.d).length≤N) (h:AWp NamedB N c (EndA ty N 0 rv R) (entS (args.map AV.d) [])):AFn f (args.map AV.d) [] R:=by
 refine ⟨⟨fn,hf,hnm,by rw [hb];rfl⟩,fun w G vs h1 h2 h3 h4=>?_⟩
 refine (afn_core ht hf hb hN hrv hargs h w { G with ad:=fun i=>i - 1000000 } vs (cvs_ad _ _ _ h1) h2 (fun i l hl=>by simp at hl) (fun i j hi=>by simp at hi) (fun X _ _ hA _ b=>by rw [hA];simp)).mono ?_
 rintro e w' ⟨v,r,os',G',rfl,hp⟩
 exact ⟨v,r,os',G',rfl,hp.post,hp.res,⟨hp.fr.os,hp.fr.tape,hp.fr.output,hp.fr.size,fun b hb hl=>hp.fr.block b hb (fun ⟨i,hi,_⟩=>by simp at hi)⟩,hp.st,hp.le,hp.ob,fun i hi=>by simp at hi,hp.adn,hp.d2,hp.cs,hp.lc,hp.bf,hp.d1,hp.d3,hp.uf⟩
end Go.Proofs.YtkohkoiegmcghaaDoor
namespace Go.Proofs.YtkohkoiegmcghaaDoor
set_option linter.unusedSimpArgs false
set_option linter.unusedVariables false
open Go.RowKit
def obN (ns:List Nat) (R:List (List RatD)) (o:Nat):Option (List AV):=match ns.idxOf? o with
 | some i=>(R[i]?).map cQ
 | none=>none
theorem cQ_scr (fb fo:Nat→Bool) (l:List RatD):List.map (scrub fb fo) (cQ l)=cQ l:=by
 unfold cQ
 rw [← scrubs_map]
 exact inert_d _ fb fo
theorem obN_scr (fb fo:Nat→Bool) (ns:List Nat) (R:List (List RatD)) (o:Nat):(obN ns R o).map (List.map (scrub fb fo))=obN ns R o:=by
 unfold obN
 split
 ·rename_i i _
  cases R[i]? with
  | none=>rfl
  | some r=>simp only [Option.map_some,cQ_scr]
 ·rfl
theorem obN_scrs (fb fo:Nat→Bool) (ns:List Nat) (R:List (List RatD)) (o:Nat):(obN ns R o).map (scrubs fb fo)=obN ns R o:=by
 rw [← scrubs_eq_map];exact obN_scr fb fo ns R o
theorem idx_some {ns:List Nat} {o i:Nat} (h:ns.idxOf? o=some i):i<ns.length∧ns.getD i 0=o:=by
 rw [List.idxOf?,List.findIdx?_eq_some_iff_getElem] at h
 obtain ⟨h1,h2,_⟩:=h
 exact ⟨h1,by simpa [List.getD,h1] using h2⟩
theorem idx_at {ns:List Nat} (hn:ns.Nodup) {i:Nat} (h:i<ns.length):ns.idxOf? (ns.getD i 0)=some i:=by
 have e:ns.getD i 0=ns[i]:=by simp [List.getD,h]
 rw [e,List.idxOf?,List.findIdx?_eq_some_iff_getElem]
 refine ⟨h,by simp,fun k hk=>?_⟩
 have:=List.nodup_iff_pairwise_ne.1 hn
 have h2:=List.pairwise_iff_getElem.1 this k i (by omega) h hk
 simpa using h2
theorem idx_none {ns:List Nat} {o:Nat} (h:o ∉ ns):ns.idxOf? o=none:=by
 rw [List.idxOf?,List.findIdx?_eq_none_iff]
 intro x hx
 simp only [beq_eq_false_iff_ne]
 exact fun e=>h (e ▸ hx)
theorem obN_at {ns:List Nat} {R:List (List RatD)} (hn:ns.Nodup) (hl:R.length=ns.length) {i:Nat} (h:i<ns.length):obN ns R (ns.getD i 0)=some (cQ (mx R i)):=by
 unfold obN
 rw [idx_at hn h]
 have hr:i<R.length:=by omega
 simp only [List.getElem?_eq_getElem hr,Option.map_some,mx_lt hr]
theorem obN_no {ns:List Nat} {R:List (List RatD)} {o:Nat} (h:o ∉ ns):obN ns R o=none:=by
 unfold obN;rw [idx_none h]
theorem obN_snoc {ns:List Nat} {R:List (List RatD)} {r:List RatD} {x o:Nat} (hl:R.length=ns.length) (hx:x ∉ ns):obN (ns ++ [x]) (R ++ [r]) o=if o=x then some (cQ r) else obN ns R o:=by
 unfold obN
 by_cases e:o=x
 ·subst e
  rw [if_pos rfl]
  have:(ns ++ [o]).idxOf? o=some ns.length:=by
   rw [List.idxOf?,List.findIdx?_append]
   have:=idx_none hx
   rw [List.idxOf?] at this
   rw [this];simp
  rw [this]
  simp only [← hl,List.getElem?_concat_length,Option.map_some]
 ·rw [if_neg e]
  have hxo:¬ x=o:=fun h=>e h.symm
  have hno:List.findIdx? (fun y=>y == o) [x]=none:=by simp [hxo]
  cases h:ns.idxOf? o with
  | none =>
   have:(ns ++ [x]).idxOf? o=none:=by
    rw [List.idxOf?] at h ⊢
    rw [List.findIdx?_append,h,hno];rfl
   rw [this]
  | some i =>
   have:(ns ++ [x]).idxOf? o=some i:=by
    rw [List.idxOf?] at h ⊢
    rw [List.findIdx?_append,h];rfl
   rw [this]
   have hi:=(idx_some h).1
   simp only [List.getElem?_append_left (show i<R.length by omega)]
theorem obN_mem {ns:List Nat} {R:List (List RatD)} (hl:R.length=ns.length) {x:Nat} (hn:ns.Nodup) (h:obN ns R x=none):x ∉ ns:=fun hx=>by
 obtain ⟨i,hi,e⟩:=List.mem_iff_getElem.1 hx
 have:=obN_at (R:=R) hn hl hi
 rw [show ns.getD i 0=x by simp [List.getD,hi,e],h] at this
 cases this
theorem mkB_ex (tl:List (Nat×AV)) (ns:List Nat) (R:List (List RatD)):∃ s:AS,s=⟨lkT tl,obN ns R⟩:=⟨_,rfl⟩
noncomputable def mkB (tl:List (Nat×AV)) (ns:List Nat) (R:List (List RatD)):AS:=Classical.choose (mkB_ex tl ns R)
theorem mkB_eq (tl:List (Nat×AV)) (ns:List Nat) (R:List (List RatD)):mkB tl ns R=⟨lkT tl,obN ns R⟩:=Classical.choose_spec (mkB_ex tl ns R)
theorem mkB_tm (tl:List (Nat×AV)) (ns:List Nat) (R:List (List RatD)) (t:Nat):(mkB tl ns R).tm t=lkT tl t:=by rw [mkB_eq]
theorem mkB_ob (tl:List (Nat×AV)) (ns:List Nat) (R:List (List RatD)) (o:Nat):(mkB tl ns R).ob o=obN ns R o:=by rw [mkB_eq]
theorem sle_mkB {s:AS} {tl:List (Nat×AV)} {ns:List Nat} {R:List (List RatD)} (h1:SOKt s tl) (h2:∀ b,s.ob (nb b)=obN ns R (nb b)) (hn:∀ x∈ns,∃ b,x=nb b):SLe s (mkB tl ns R):=by
 have hs:=sle_mk (ol:=[]) h1 trivial
 have hr:=SLe.refl s
 refine ⟨fun t=>by rw [mkB_tm];exact hs.1 t,fun o l' h=>?_⟩
 rw [mkB_ob] at h
 have hm:o∈ns:=by
  refine Classical.byContradiction fun hc=>?_
  rw [obN_no hc] at h;cases h
 obtain ⟨b,rfl⟩:=hn o hm
 rw [← h2] at h
 exact hr.2 _ _ h
theorem sle_mkB0 {s:AS} {tl:List (Nat×AV)} (h1:SOKt s tl):SLe s (mkB tl [] []):=by
 have hs:=sle_mk (ol:=[]) h1 trivial
 refine ⟨fun t=>by rw [mkB_tm];exact hs.1 t,fun o l' h=>?_⟩
 rw [mkB_ob,obN_no (by simp)] at h
 cases h
structure Mat (n N:Nat) where
 ns:List Nat
 R:List (List RatD)
 hl:ns.length=n
 hs:Shp n N R
 nd:ns.Nodup
 hb:∀ x∈ns,1000000<x
namespace Mat
variable {n N:Nat}
def nm (M:Mat n N) (i:Nat):Nat:=M.ns.getD i 0
def row (M:Mat n N) (i:Nat):List RatD:=mx M.R i
def hdr (M:Mat n N):List AV:=M.ns.map fun x=>.arr x 2 N
end Mat
section
variable {n N:Nat}
theorem nmM_mem {M:Mat n N} {i:Nat} (h:i<n):M.nm i∈M.ns:=by
 have:i<M.ns.length:=by rw [M.hl];exact h
 simp [Mat.nm,List.getD,this]
theorem nmM_ne {M:Mat n N} {i o:Nat} (h:i<n) (ho:o≤1000000):(M.nm i=o)=False:=by
 have:=M.hb _ (nmM_mem (M:=M) h)
 exact eq_false (by omega)
theorem ne_nmM {M:Mat n N} {i o:Nat} (h:i<n) (ho:o≤1000000):(o=M.nm i)=False:=by
 have:=M.hb _ (nmM_mem (M:=M) h)
 exact eq_false (by omega)
theorem nmM_inj {M:Mat n N} {i j:Nat} (h:i<n) (hj:j<n):(M.nm i=M.nm j)=(i=j):=by
 refine propext ⟨fun e=>?_,fun e=>by rw [e]⟩
 have h1:=idx_at M.nd (i:=i) (by rw [M.hl];exact h)
 have h2:=idx_at M.nd (i:=j) (by rw [M.hl];exact hj)
 have e:M.ns.getD i 0=M.ns.getD j 0:=e
 rw [e,h2] at h1
 exact (Option.some.inj h1).symm
theorem nmM_beq {M:Mat n N} {i o:Nat} (h:i<n) (ho:o≤1000000):(M.nm i == o)=false:=by
 rw [beq_eq_false_iff_ne];exact fun e=>(nmM_ne h ho).mp e
theorem hdrM_len (M:Mat n N):M.hdr.length=n:=by simp [Mat.hdr,M.hl]
theorem hdrM_getD {M:Mat n N} {i:Nat} (h:i<n) (d:AV):M.hdr.getD i d=.arr (M.nm i) 2 N:=by
 have:i<M.ns.length:=by rw [M.hl];exact h
 simp [Mat.hdr,Mat.nm,List.getD,this]
theorem rowM_len {M:Mat n N} {i:Nat} (h:i<n):(M.row i).length=N:=M.hs.2 i h
theorem hdrM_scr {fb fo:Nat→Bool} {M:Mat n N} (h:∀ x,1000000<x→fo x=true):List.map (scrub fb fo) M.hdr=M.hdr:=by
 unfold Mat.hdr
 rw [List.map_map]
 apply List.map_congr_left
 intro x hx
 simp only [Function.comp_apply,scrub]
 rw [if_pos (h x (M.hb x hx))]
theorem hdrM_sm {fb:Nat→Bool} {d:Nat} (M:Mat n N) (h:d≤1000000):List.map (scrub fb (fun o=>!(o == d))) M.hdr=M.hdr:=hdrM_scr fun x hx=>by
 have:(x == d)=false:=by rw [beq_eq_false_iff_ne];omega
 rw [this];rfl
theorem hdrM_ss {fb:Nat→Bool} {d:Nat} (M:Mat n N) (h:d≤1000000):scrubs fb (fun o=>!(o == d)) M.hdr=M.hdr:=by rw [scrubs_map];exact hdrM_sm M h
theorem hdrM_tm {fb:Nat→Bool} (M:Mat n N):List.map (scrub fb (fun _=>true)) M.hdr=M.hdr:=hdrM_scr fun _ _=>rfl
def swapL {α:Type} (l:List α) (i j:Nat) (d:α):List α:=(l.set j (l.getD i d)).set i (l.getD j d)
theorem swapL_len {α:Type} (l:List α) (i j:Nat) (d:α):(swapL l i j d).length=l.length:=by simp [swapL]
theorem swapL_at {α:Type} {l:List α} {i j:Nat} {d:α} (hi:i<l.length) (hj:j<l.length) (k:Nat):(swapL l i j d).getD k d=l.getD (if k=i then j else if k=j then i else k) d:=by
 unfold swapL
 simp only [List.getD,List.getElem?_set,List.length_set]
 by_cases h1:i=k
 ·subst h1;simp [hi]
 ·have h1':¬ k=i:=fun e=>h1 e.symm
  rw [if_neg h1,if_neg h1']
  by_cases h2:j=k
  ·subst h2;simp [hj]
  ·have h2':¬ k=j:=fun e=>h2 e.symm
   rw [if_neg h2,if_neg h2']
theorem getD_mem {l:List Nat} {i:Nat} (h:i<l.length):l.getD i 0∈l:=by simp [List.getD,h]
theorem nodup_inj {l:List Nat} (hn:l.Nodup) {i j:Nat} (hi:i<l.length) (hj:j<l.length) (e:l.getD i 0=l.getD j 0):i=j:=by
 have h1:=idx_at hn hi
 have h2:=idx_at hn hj
 rw [e,h2] at h1
 exact (Option.some.inj h1).symm
namespace Mat
def swap (M:Mat n N) (i j:Nat) (hi:i<n) (hj:j<n):Mat n N where
 ns:=swapL M.ns i j 0
 R:=swapL M.R i j []
 hl:=by rw [swapL_len,M.hl]
 hs:=by
  refine ⟨by rw [swapL_len,M.hs.1],fun k hk=>?_⟩
  show ((swapL M.R i j []).getD k []).length=N
  rw [swapL_at (by rw [M.hs.1];exact hi) (by rw [M.hs.1];exact hj)]
  exact M.hs.2 _ (by split <;> (try split) <;> omega)
 nd:=by
  have hl:=M.hl
  rw [List.nodup_iff_pairwise_ne,List.pairwise_iff_getElem]
  intro a b ha hb hab e
  rw [swapL_len] at ha hb
  have ea:(swapL M.ns i j 0).getD a 0=(swapL M.ns i j 0).getD b 0:=by simp [List.getD,swapL_len,ha,hb,e]
  rw [swapL_at (by omega) (by omega),swapL_at (by omega) (by omega)] at ea
  have:=nodup_inj M.nd (by split <;> (try split) <;> omega) (by split <;> (try split) <;> omega) ea
  revert this
  split <;> (try split) <;> (try split) <;> (try split) <;> omega
 hb:=by
  have hl:=M.hl
  intro x hx
  obtain ⟨a,ha,rfl⟩:=List.mem_iff_getElem.1 hx
  have ha2:a<M.ns.length:=by rw [swapL_len] at ha;exact ha
  have e:(swapL M.ns i j 0)[a]=(swapL M.ns i j 0).getD a 0:=by simp [List.getD,ha]
  rw [e,swapL_at (by omega) (by omega)]
  exact M.hb _ (getD_mem (by split <;> (try split) <;> omega))
def withR (M:Mat n N) (R:List (List RatD)) (h:Shp n N R):Mat n N:=⟨M.ns,R,M.hl,h,M.nd,M.hb⟩
end Mat
theorem swapM_nm {M:Mat n N} {i j:Nat} (hi:i<n) (hj:j<n) (k:Nat):(M.swap i j hi hj).nm k=M.nm (if k=i then j else if k=j then i else k):=swapL_at (by rw [M.hl];exact hi) (by rw [M.hl];exact hj) k
theorem swapM_row {M:Mat n N} {i j:Nat} (hi:i<n) (hj:j<n) (k:Nat):(M.swap i j hi hj).row k=M.row (if k=i then j else if k=j then i else k):=swapL_at (by rw [M.hs.1];exact hi) (by rw [M.hs.1];exact hj) k
theorem swapM_hdr {M:Mat n N} {i j:Nat} (hi:i<n) (hj:j<n):(M.hdr.set j (.arr (M.nm i) 2 N)).set i (.arr (M.nm j) 2 N)=(M.swap i j hi hj).hdr:=by
 simp only [Mat.hdr,Mat.swap,swapL,Mat.nm,List.map_set]
theorem asubs_mk {ns:List Nat}:∀ {l m:List AV},l.length=m.length→(∀ (i:Nat) (x y:AV),l[i]? = some x→m[i]? = some y→ASub ns x y)→ASubs ns l m
 | [],m,h,_=>by rw [List.eq_nil_of_length_eq_zero (l:=m) (by simpa using h.symm)];exact .nil
 | x :: l,[],h,_=>by simp at h
 | x :: l,y :: m,h,hh=>.cons (hh 0 x y (by simp) (by simp)) (asubs_mk (by simpa using h) fun i a b ha hb=>hh (i+1) a b (by simpa using ha) (by simpa using hb))
theorem asubs_cQ (ns:List Nat) (l:List RatD):ASubs ns (cQ l) (cQ l):=asubs_mk rfl fun i x y hx hy=>by
 rw [hx] at hy;cases hy
 unfold cQ at hx
 obtain ⟨z,hz,rfl⟩:=List.mem_map.1 (List.mem_of_getElem? hx)
 exact .d z
theorem renAs_map (ns:List Nat) (d:Nat) (l:List AV):renAs ns d l=l.map (renA ns d):=by
 induction l with
 | nil=>rfl
 | cons x l ih=>simp [renAs,ih]
theorem renAs_cQ (ns:List Nat) (d:Nat) (l:List RatD):renAs ns d (cQ l)=cQ l:=by
 rw [renAs_map]
 unfold cQ
 rw [List.map_map]
 rfl
section
variable {M:Mat n N} {s:AS} {d:Nat}
theorem callM_tm (ns:List Nat) (os:List (List AV)) (t:Nat):(s.call ns d os).tm t=scrub (fun g=>!(g == d)) (fun o=>!(o == d)) (s.tm t):=rfl
end
def mkM0 (tl:List (Nat×AV)) (ol:List (Nat×List AV)) (M:Mat n N):AS :=
 ⟨lkT tl,fun o=>if o=500000 then some M.hdr else if 1000000<o then obN M.ns M.R o else lkO ol o⟩
theorem mkM_ex (tl:List (Nat×AV)) (ol:List (Nat×List AV)) (M:Mat n N):∃ s:AS,s=mkM0 tl ol M:=⟨_,rfl⟩
noncomputable def mkM (tl:List (Nat×AV)) (ol:List (Nat×List AV)) (M:Mat n N):AS:=Classical.choose (mkM_ex tl ol M)
theorem mkM_eq (tl:List (Nat×AV)) (ol:List (Nat×List AV)) (M:Mat n N):mkM tl ol M=mkM0 tl ol M:=Classical.choose_spec (mkM_ex tl ol M)
theorem mkM_tm (tl:List (Nat×AV)) (ol:List (Nat×List AV)) (M:Mat n N) (t:Nat):(mkM tl ol M).tm t=lkT tl t:=by rw [mkM_eq];rfl
theorem mkM_obh (tl:List (Nat×AV)) (ol:List (Nat×List AV)) (M:Mat n N):(mkM tl ol M).ob 500000=some M.hdr:=by rw [mkM_eq];rfl
theorem mkM_obr {tl:List (Nat×AV)} {ol:List (Nat×List AV)} {M:Mat n N} {i:Nat} (h:i<n):(mkM tl ol M).ob (M.nm i)=some (cQ (M.row i)):=by
 have hb:=M.hb _ (nmM_mem (M:=M) h)
 rw [mkM_eq]
 simp only [mkM0]
 rw [if_neg (by omega),if_pos hb]
 exact obN_at M.nd (by rw [M.hs.1,M.hl]) (by rw [M.hl];exact h)
theorem mkM_obl {tl:List (Nat×AV)} {ol:List (Nat×List AV)} {M:Mat n N} {o:Nat} (h:o<500000):(mkM tl ol M).ob o=lkO ol o:=by
 rw [mkM_eq]
 simp only [mkM0]
 rw [if_neg (by omega),if_neg (by omega)]
theorem sle_mkM {s:AS} {tl:List (Nat×AV)} {ol:List (Nat×List AV)} {M:Mat n N} (h1:SOKt s tl) (h2:SOKo s ol) (h3:s.ob 500000=some M.hdr) (h4:∀ i,i<n→s.ob (M.nm i)=some (cQ (M.row i))):SLe s (mkM tl ol M):=by
 have hs:=sle_mk h1 h2
 have hr:=SLe.refl s
 rw [mkM_eq]
 refine ⟨hs.1,fun o l' h=>?_⟩
 change (if o=500000 then some M.hdr else if 1000000<o then obN M.ns M.R o else lkO ol o)=some l' at h
 split at h
 ·rename_i e
  cases h
  subst e
  exact hr.2 _ _ h3
 ·split at h
  ·rename_i e2
   cases hi:M.ns.idxOf? o with
   | none=>unfold obN at h;rw [hi] at h;cases h
   | some i =>
    obtain ⟨g1,g2⟩:=idx_some hi
    have hin:i<n:=by rw [← M.hl];exact g1
    have h5:=h4 i hin
    have e3:M.nm i=o:=g2
    rw [e3] at h5
    unfold obN at h
    rw [hi] at h
    have hR:i<M.R.length:=by rw [M.hs.1];exact hin
    simp only [List.getElem?_eq_getElem hR,Option.map_some,Option.some.injEq] at h
    subst h
    have e4:M.row i=M.R[i]:=mx_lt hR
    rw [e4] at h5
    exact hr.2 _ _ h5
  ·exact hs.2 _ _ h
end
def OKM (o:Nat):AV→Prop
 | .junk=>True
 | .d x=>plainD x=true
 | .nil=>True
 | .ptr q _=>q ≠ o
 | .arr q _ _=>q ≠ o
 | .cst _=>True
 | _=>False
theorem OKM.cv {G:Gh} {w:World} {g o b0:Nat}:∀ {x:AV} {v:Value},OKM o x→CV G w x v→CV (thG G g o b0) w x v
 | .junk,_,_,_=>trivial
 | .d x,v,h,hv=>by
  obtain ⟨us,h1,h2⟩:=hv
  exact ⟨us,plain_cx h h1,h2⟩
 | .nil,_,_,hv=>hv
 | .cst _,_,_,hv=>hv
 | .ptr q i,v,h,hv=>by
  simp only [CV,thG] at hv ⊢
  rw [if_neg h];exact hv
 | .arr q k m,v,h,hv=>by
  simp only [CV,thG] at hv ⊢
  rw [if_neg h];exact hv
theorem OKMs.cv {G:Gh} {w:World} {g o b0:Nat}:∀ {l:List AV} {us:List Value},(∀ x∈l,OKM o x)→CVs G w l us→CVs (thG G g o b0) w l us
 | [],_,_,h=>h
 | x :: l,us,h,hv=>by
  obtain ⟨v,us',e,h1,h2⟩:=hv
  exact ⟨v,us',e,OKM.cv (h x (List.mem_cons_self ..)) h1,OKMs.cv (fun y hy=>h y (List.mem_cons_of_mem _ hy)) h2⟩
theorem awp_thawM {P:Cx→Prop} {N:Nat} {c:Code} {Q:Exit→AS→Prop} {s:AS} (t g o k:Nat) {T:TypeId} {l:List DV} {cells:List AV} (hN:t<N) (h0:s.tm t=.buf g T k l) (hne:l ≠ []) (hk:0<k) (hel:elemsOK k l=true) (ho:s.ob o=none) (hlt:o<1000000)
 (hcl:∀ (X:Cx) (G:Gh) (a:Act) (w:World) (us:List Value),P X→RelG X G s a w→CXk G.C w 1 (flatD l) us→∀ G':Gh,(∀ q,q ≠ o→G'.ad q=G.ad q)→CVs G' w cells us)
 (hT:∀ t',t' ≠ t→OKM o (s.tm t')) (hO:∀ q l',s.ob q=some l'→∀ x∈l',OKM o x) (h:AWp P N c Q ((s.put t (.arr o k l.length)).setOb o (some cells))):AWp P N c Q s:=by
 intro X a w hNX hP ⟨G,hr⟩
 have hb:=hr.tm t (by rw [hNX];exact hN)
 rw [h0] at hb
 obtain ⟨h1,h2,h3,h4⟩:=hb
 obtain ⟨a0,n,c0,vs,e1,e2,e3⟩:=hr.bf g
 obtain ⟨a',n',c',vs',e4,e5,e6,e7⟩:=wh_sl h4
 rw [h1,e1] at e4
 simp only [List.cons.injEq,Value.slice.injEq,and_true] at e4
 obtain ⟨rfl,rfl,rfl⟩:=e4
 have hn:0<n:=by rw [← e5];exact List.length_pos_iff.2 hne
 obtain ⟨b0,rfl,hg1,hg2⟩:=e2.head hn
 obtain ⟨b7,off7,ha7,hc7⟩:=e7.2.2.2.2.2 hn
 simp only [Option.some.injEq,Addr.mk.injEq,and_true] at ha7
 obtain ⟨rfl,rfl⟩:=ha7
 have hfl:=cxk_flat hel e6
 have hown:(G.hd g).ownBlock=some b0:=by rw [e1];rfl
 have hob':∀ q,((s.put t (.arr o k l.length)).setOb o (some cells)).ob q=if q=o then some cells else s.ob q:=fun q=>rfl
 have hne':∀ q,((s.put t (.arr o k l.length)).setOb o (some cells)).ob q ≠ none→q=o∨(q ≠ o∧s.ob q ≠ none):=fun q hq=>by
  rw [hob'] at hq
  by_cases e:q=o
  ·exact .inl e
  ·rw [if_neg e] at hq;exact .inr ⟨e,hq⟩
 have hado:(thG G g o b0).ad o=b0:=by simp [thG]
 have hadq:∀ q,q ≠ o→(thG G g o b0).ad q=G.ad q:=fun q hq=>by simp [thG,hq]
 refine h X a w hNX hP ⟨thG G g o b0,hr.fr,hr.df,hr.n,fun t' ht'=>?_,fun q=>?_,fun q l' hq=>?_,fun b i hc=>hr.cs b i hc.1,fun g1 g2 hg e=>?_,fun q q' h5 h6 e=>?_,fun q g1 h5=>?_,fun q h5=>?_,fun b i hc hb=>hr.lc b i hc.1 hb,fun b i hc=>hr.nl b i hc.1,fun i h5=>?_,fun b i hc=>⟨hr.c0 b i hc,?_⟩,fun b i hc hz=>hr.uf b i hc.1 hz⟩
 ·show CV _ w (if t'=t then _ else s.tm t') _
  by_cases e:t'=t
  ·subst e
   rw [if_pos rfl]
   refine ⟨c0,?_,by rw [e5];exact e7.2.1,e7.2.2.1⟩
   rw [hado,h1,e1,e5]
  ·rw [if_neg e]
   exact OKM.cv (hT t' e) (hr.tm t' ht')
 ·show BufOK (thG G g o b0) _ w q
  by_cases e:q=g
  ·exact ⟨none,0,0,[],by simp [thG,e],ownF_nil _ _ _ _,fun b hb=>by cases hb⟩
  ·obtain ⟨a1,n1,c1,vs1,f1,f2,f3⟩:=hr.bf q
   exact ⟨a1,n1,c1,vs1,by simp [thG,e,f1],f2,fun b hb i=>⟨fun hc=>(f3 b hb i).1 hc.1,fun hci=>⟨(f3 b hb i).2 hci,fun e9=>e (by
    rw [e9] at hb;subst hb
    by_cases e10:q=g
    ·exact e10
    ·have hq1:(G.hd q).ownBlock=some b0:=by rw [f1];rfl
     have:=hr.d1 q g e10 (hq1.trans hown.symm)
     rw [hq1] at this;cases this)⟩⟩⟩
 ·rw [hob'] at hq
  by_cases e:q=o
  ·rw [if_pos e] at hq
   cases hq
   subst e
   refine ⟨by rw [hado];exact hg2,fun i hc=>by rw [hado] at hc;exact hc.2 rfl,vs',hcl X G a w vs' hP hr hfl _ hadq,e7.2.2.2.2.1,fun i u hu=>?_⟩
   rw [hado]
   exact ⟨by simpa using (hc7 i u hu).2,e2.free i⟩
  ·rw [if_neg e] at hq
   obtain ⟨g1,g2,us,g3,g4,g5⟩:=hr.ob q l' hq
   refine ⟨by rw [hadq q e];exact g1,fun i hc=>by rw [hadq q e] at hc;exact g2 i hc.1,us,OKMs.cv (hO q l' hq) g3,g4,by rw [hadq q e];exact g5⟩
 ·simp only [thG] at e ⊢
  by_cases e8:g1=g
  ·rw [if_pos e8];rfl
  ·rw [if_neg e8] at e ⊢
   by_cases e9:g2=g
   ·rw [if_pos e9] at e;exact e
   ·rw [if_neg e9] at e;exact hr.d1 g1 g2 hg e
 ·rcases hne' q h5 with r1 | ⟨r1,r2⟩ <;> rcases hne' q' h6 with r3 | ⟨r3,r4⟩
  ·rw [r1,r3]
  ·rw [r1,hado,hadq q' r3] at e
   exact absurd (by rw [hown,e]) (hr.d3 q' g r4)
  ·rw [r3,hado,hadq q r1] at e
   exact absurd (by rw [hown,← e]) (hr.d3 q g r2)
  ·rw [hadq q r1,hadq q' r3] at e
   exact hr.d2 q q' r2 r4 e
 ·intro e
  simp only [thG] at e
  by_cases e8:g1=g
  ·rw [if_pos e8] at e;cases e
  ·rw [if_neg e8] at e
   by_cases e9:q=o
   ·rw [if_pos e9] at e
    have:=hr.d1 g1 g e8 (by rw [e,hown])
    rw [this] at e;cases e
   ·rw [if_neg e9] at e
    rcases hne' q h5 with r1 | ⟨_,r2⟩
    ·exact e9 r1
    ·exact hr.d3 q g1 r2 e
 ·rcases hne' q h5 with r1 | ⟨r1,r2⟩
  ·rw [r1,hado];exact ⟨fun _=>hg1,.inl hg1⟩
  ·rw [hadq q r1];exact hr.ow q r2
 ·rcases hne' _ h5 with r1 | ⟨r1,r2⟩
  ·omega
  ·rw [hadq _ r1];exact hr.ln i r2
 ·have:=X.hC b i hc
  omega
inductive HdOK (N:Nat):List DV→List Nat→Prop where
 | nil:HdOK N [] []
 | snoc {hs:List DV} {ns:List Nat} {b c:Nat}:HdOK N hs ns→N≤c→c≤maxLen→HdOK N (hs ++ [hdV b N c]) (ns ++ [nb b])
theorem HdOK.len {N:Nat} {hs:List DV} {ns:List Nat} (h:HdOK N hs ns):hs.length=ns.length:=by
 induction h with
 | nil=>rfl
 | snoc _ _ _ ih=>simp [ih]
theorem HdOK.el {N:Nat} {hs:List DV} {ns:List Nat} (h:HdOK N hs ns):elemsOK 1 hs=true∧flatD hs=hs:=by
 induction h with
 | nil=>exact ⟨rfl,rfl⟩
 | snoc _ _ _ ih =>
  refine ⟨?_,?_⟩
  ·have:=ih.1
   simp only [elemsOK,List.all_append,List.all_cons,List.all_nil,Bool.and_true,Bool.and_eq_true] at this ⊢
   exact ⟨this,rfl,rfl⟩
  ·have:=ih.2
   simp only [flatD,List.map_append,List.flatten_append] at this ⊢
   rw [this];rfl
theorem HdOK.nbs {N:Nat} {hs:List DV} {ns:List Nat} (h:HdOK N hs ns):∀ x∈ns,∃ b,x=nb b:=by
 induction h with
 | nil=>intro x hx;cases hx
 | snoc _ _ _ ih =>
  intro x hx
  rcases List.mem_append.1 hx with h | h
  ·exact ih x h
  ·exact ⟨_,by simpa using h⟩
theorem HdOK.cvs {N:Nat} {hs:List DV} {ns:List Nat} (h:HdOK N hs ns) {C:Nat→Nat→Prop} {G':Gh} {w:World}:(∀ b,nb b∈ns→G'.ad (nb b)=b)→∀ us,CXk C w 1 hs us→CVs G' w (ns.map fun x=>.arr x 2 N) us:=by
 induction h with
 | nil=>intro _ us h;exact h
 | snoc h1 h2 h3 ih =>
  rename_i hs ns b c
  intro hG us hu
  have hsplit:∀ (l:List DV) (us:List Value),CXk C w 1 (l ++ [hdV b N c]) us→∃ us',us=us' ++ [.slice (some ⟨b,0,none⟩) N c]∧CXk C w 1 l us':=by
   intro l
   induction l with
   | nil =>
    rintro us ⟨u,v,rfl,⟨rfl,_⟩,_,rfl⟩
    exact ⟨[],rfl,rfl⟩
   | cons x l ih =>
    rintro us ⟨u,v,rfl,q1,q2,q3⟩
    obtain ⟨us',rfl,q4⟩:=ih v q3
    exact ⟨u ++ us',by simp,u,us',rfl,q1,q2,q4⟩
  obtain ⟨us',rfl,q⟩:=hsplit hs us hu
  rw [List.map_append]
  refine CVs.app (ih (fun b' hb'=>hG b' (List.mem_append_left _ hb')) us' q) ⟨_,[],rfl,⟨c,?_,h2,h3⟩,rfl⟩
  rw [hG b (List.mem_append_right _ (List.mem_cons_self ..))]
theorem awp_matM {P:Cx→Prop} {K:Nat} {c:Code} {Q:Exit→AS→Prop} {tl tl':List (Nat×AV)} {n N g:Nat} {T:TypeId} {hs:List DV} (t:Nat) (M:Mat n N) (hA:∀ X,P X→NamedB X) (hN:t<K) (h0:lkT tl t=.buf g T 1 hs) (hH:HdOK N hs M.ns) (hn:0<n)
 (hT:∀ t',t' ≠ t→OKM 500000 (lkT tl t')) (hS:SOKt ((mkB tl M.ns M.R).put t (.arr 500000 1 n)) tl') (h:AWp P K c Q (mkM tl' [] M)):AWp P K c Q (mkB tl M.ns M.R):=by
 have hlen:hs.length=n:=by rw [hH.len,M.hl]
 have hnot:∀ o,o≤1000000→obN M.ns M.R o=none:=fun o ho=>obN_no fun hm=>by
  have:=M.hb o hm
  omega
 refine awp_thawM (cells:=M.hdr) t g 500000 1 hN (by rw [mkB_tm];exact h0) (fun e=>by rw [e] at hlen;simp at hlen;omega) (by decide) hH.el.1 (by rw [mkB_ob];exact hnot _ (by decide)) (by decide) ?_ (fun t' ht'=>by rw [mkB_tm];exact hT t' ht') (fun q l' hq x hx=>?_) ?_
 ·intro X G a w us hP hr hu G' hG'
  rw [hH.el.2] at hu
  refine hH.cvs (fun b hb=>?_) us hu
  have hne:nb b ≠ 500000:=by rw [nb_eq];omega
  rw [hG' _ hne]
  have hob:(mkB tl M.ns M.R).ob (1000000+(1000000+b)) ≠ none:=by
   rw [mkB_ob,← nb_eq]
   obtain ⟨i,hi,e⟩:=List.mem_iff_getElem.1 hb
   have e2:M.ns.getD i 0=nb b:=by simp [List.getD,hi,e]
   rw [← e2,obN_at M.nd (by rw [M.hs.1,M.hl]) hi]
   exact fun x=>(by cases x)
  have:=hr.ln _ hob
  rw [hA X hP,← nb_eq] at this
  exact this
 ·rw [mkB_ob] at hq
  unfold obN at hq
  split at hq
  ·cases hR:M.R[‹Nat›]? with
   | none=>rw [hR] at hq;cases hq
   | some r =>
    rw [hR] at hq
    simp only [Option.map_some,Option.some.injEq] at hq
    subst hq
    obtain ⟨y,hy,rfl⟩:=List.mem_map.1 hx
    have hint:∀ (l:List RatD),∀ y∈flatD (l.map ratDV),plainD y=true:=fun l=>by
     induction l with
     | nil=>intro y hy;cases hy
     | cons z l ih =>
      intro y hy
      have e:flatD ((z :: l).map ratDV)=.int z.num :: .int z.den :: flatD (l.map ratDV):=rfl
      rw [e] at hy
      rcases List.mem_cons.1 hy with rfl | hy
      ·rfl
      ·rcases List.mem_cons.1 hy with rfl | hy
       ·rfl
       ·exact ih y hy
    exact hint r y hy
  ·cases hq
 ·have hsk:∀ (l:List (Nat×AV)) (s s':AS),s'.tm=s.tm→SOKt s l→SOKt s' l:=fun l s s' e=>by
   induction l with
   | nil=>exact fun h=>h
   | cons p l ih=>exact fun h=>⟨by rw [e];exact h.1,ih h.2⟩
  refine awp_weak (sle_mkM (ol:=[]) ?_ trivial ?_ (fun i hi=>?_)) h
  ·rw [hlen]
   have h9:=hsk tl' ((mkB tl M.ns M.R).put t (.arr 500000 1 n)) (((mkB tl M.ns M.R).put t (.arr 500000 1 n)).setOb 500000 (some M.hdr)) rfl hS
   exact h9
  ·show (if (500000:Nat)=500000 then some M.hdr else (mkB tl M.ns M.R).ob 500000)=some M.hdr
   rw [if_pos rfl]
  ·have hb:=M.hb _ (nmM_mem (M:=M) hi)
   show (if M.nm i=500000 then some M.hdr else (mkB tl M.ns M.R).ob (M.nm i))=_
   rw [if_neg (by omega),mkB_ob]
   exact obN_at M.nd (by rw [M.hs.1,M.hl]) (by rw [M.hl];exact hi)
theorem rowSt_tm (ob:Nat→Option (List AV)) (sx:Nat→AV) (tr b c n:Nat) (cells:List AV) (t:Nat):(rowSt ob sx tr b c n cells).tm t=if t=tr then .d (hdV b n c) else scrub (fun _=>true) (fun o=>!(o == nb b)) (sx t):=rfl
theorem rowSt_ob (ob:Nat→Option (List AV)) (sx:Nat→AV) (tr b c n:Nat) (cells:List AV) (o:Nat):(rowSt ob sx tr b c n cells).ob o=if o=nb b then some cells else (ob o).map (List.map (scrub (fun _=>true) (fun o=>!(o == nb b)))):=rfl
theorem keptT_eq (ds:List Nat) (d0:Nat) (x0:AV) (s:AS) (t:Nat):keptT ds d0 x0 s t=if t=d0 then x0 else if ds.contains t=true then .junk else s.tm t:=rfl
theorem cQ_scrs (fb fo:Nat→Bool) (l:List RatD):scrubs fb fo (cQ l)=cQ l:=by rw [scrubs_map];exact cQ_scr fb fo l
attribute [go_sem] rowSt_tm rowSt_ob keptT_eq cQ_scr cQ_scrs List.contains_cons List.contains_nil Bool.false_or Bool.or_false nb_ne ne_nb nb_inj nb_beq beq_nb obN_scr obN_scrs mkB_tm mkB_ob nmM_ne ne_nmM nmM_inj nmM_beq hdrM_len hdrM_getD hdrM_sm hdrM_ss hdrM_tm mkM_tm mkM_obh mkM_obr mkM_obl
end Go.Proofs.YtkohkoiegmcghaaDoor
namespace Go.Proofs.YtkohkoiegmcghaaDoor
set_option linter.unusedSimpArgs false
set_option linter.unusedVariables false
attribute [local go_sem ↓] reduceIte
attribute [local go_sem] Nat.reduceEqDiff Nat.reduceLT Nat.reduceAdd Nat.reduceLeDiff Nat.reduceMul Nat.reduceBEq Nat.reduceSub reduceCtorEq Int.reduceLE Int.reduceNeg Int.reduceLT
open Go.RowKit
def augF (rows:List (List RatD)) (right:List RatD):List (List RatD):=(List.range rows.length).map fun i=>mx rows i ++ [qx right i]
theorem augF_len (rows:List (List RatD)) (right:List RatD):(augF rows right).length=rows.length:=by simp [augF]
theorem augF_mx {rows:List (List RatD)} {right:List RatD} {i:Nat} (h:i<rows.length):mx (augF rows right) i=mx rows i ++ [qx right i]:=by simp [augF,mx,List.getD,h]
theorem augF_take {rows:List (List RatD)} {right:List RatD} {i:Nat} (h:i<rows.length):(augF rows right).take (i+1)=(augF rows right).take i ++ [mx rows i ++ [qx right i]]:=by
 have hl:i<(augF rows right).length:=by rw [augF_len];exact h
 rw [List.take_add_one,List.getElem?_eq_getElem hl,← augF_mx h,mx_lt hl]
 rfl
def pvF (R:List (List RatD)) (p n:Nat):Option Nat:=(List.range' p (n - p)).find? fun k=>!decide ((qx (mx R k) p).num=0)
theorem pv_some {R:List (List RatD)} {p n k:Nat} (hp:p≤k) (hk:k<n) (h:∀ j,p≤j→j<k→(qx (mx R j) p).num=0) (hz:¬ (qx (mx R k) p).num=0):pvF R p n=some k:=by
 unfold pvF
 rw [show n - p=(k - p)+((n - k - 1)+1) by omega,← List.range'_append_1,List.find?_append]
 have:(List.range' p (k - p)).find? (fun k=>!decide ((qx (mx R k) p).num=0))=none:=by
  rw [List.find?_eq_none]
  intro x hx
  rw [List.mem_range'_1] at hx
  simp [h x (by omega) (by omega)]
 rw [this,show p+(k - p)=k by omega,List.range'_succ,List.find?_cons_of_pos (by simp [hz])]
 rfl
theorem pv_none {R:List (List RatD)} {p n:Nat} (h:∀ j,p≤j→j<n→(qx (mx R j) p).num=0):pvF R p n=none:=by
 unfold pvF
 rw [List.find?_eq_none]
 intro x hx
 rw [List.mem_range'_1] at hx
 simp [h x (by omega) (by omega)]
def gsF (n:Nat) (R0:List (List RatD)):Nat→Option (List (List RatD))
 | 0=>some R0
 | p+1=>match gsF n R0 p with
  | none=>none
  | some R=>match pvF R p n with
   | none=>none
   | some k=>stF (swapL R p k []) p
theorem gsF_none {n:Nat} {R0:List (List RatD)} {p:Nat} (h:gsF n R0 p=none):∀ j,p≤j→gsF n R0 j=none:=by
 intro j hj
 induction hj with
 | refl=>exact h
 | step _ ih=>simp only [gsF,ih]
def outTo (R:List (List RatD)) (n:Nat):Nat→Option (List RatD)
 | 0=>some []
 | p+1=>match outTo R n p with
  | none=>none
  | some l=>if (divQ (qx (mx R p) n) (qx (mx R p) p)).2.2=true then some (l ++ [rq (divQ (qx (mx R p) n) (qx (mx R p) p))]) else none
theorem outTo_none {R:List (List RatD)} {n p:Nat} (h:outTo R n p=none):∀ j,p≤j→outTo R n j=none:=by
 intro j hj
 induction hj with
 | refl=>exact h
 | step _ ih=>simp only [outTo,ih]
theorem outTo_len {R:List (List RatD)} {n:Nat}:∀ {p:Nat} {l:List RatD},outTo R n p=some l→l.length=p
 | 0,l,h=>by simp only [outTo,Option.some.injEq] at h;subst h;rfl
 | p+1,l,h=>by
  simp only [outTo] at h
  split at h
  ·cases h
  ·rename_i l0 h0
   split at h
   ·cases h;rw [List.length_append,outTo_len h0];rfl
   ·cases h
def solF (rows:List (List RatD)) (right:List RatD):Option (List RatD):=match gsF right.length (augF rows right) right.length with
 | none=>none
 | some R=>outTo R right.length right.length
structure SysOK (rows:List (List RatD)) (right:List RatD) (n:Nat):Prop where
 n1:1≤n
 n6:n≤6
 rl:rows.length=n
 bl:right.length=n
 rr:∀ i,i<n→(mx rows i).length=n
 rv:∀ i,i<n→vL (mx rows i)=true
 bv:vL right=true
theorem SysOK.mat {rows:List (List RatD)} {right:List RatD} {n:Nat} (h:SysOK rows right n):matOK rows n n=true:=by
 unfold matOK
 rw [h.rl,decide_eq_true rfl,Bool.true_and,List.all_eq_true]
 intro r hr
 obtain ⟨i,hi,rfl⟩:=List.mem_iff_getElem.1 hr
 have hi2:i<n:=by rw [← h.rl];exact hi
 have e:=mx_lt hi
 rw [← e]
 unfold rowV
 rw [h.rr i hi2,h.rv i hi2]
 simp
theorem SysOK.aug {rows:List (List RatD)} {right:List RatD} {n:Nat} (h:SysOK rows right n):Shp n (n+1) (augF rows right):=by
 refine ⟨by rw [augF_len,h.rl],fun i hi=>?_⟩
 rw [augF_mx (by rw [h.rl];exact hi),List.length_append,h.rr i hi];rfl
theorem flat_rats (l:List RatD):((flatD (l.map ratDV)).map AV.d)=cQ l:=rfl
theorem rats_el (l:List RatD):elemsOK 2 (l.map ratDV)=true∧(flatD (l.map ratDV)).all isIntD=true:=by
 induction l with
 | nil=>exact ⟨rfl,rfl⟩
 | cons x l ih =>
  refine ⟨?_,?_⟩
  ·have:=ih.1
   simp only [elemsOK,List.map_cons,List.all_cons,Bool.and_eq_true] at this ⊢
   exact ⟨⟨rfl,rfl⟩,this⟩
  ·show (flatD (ratDV x :: l.map ratDV)).all isIntD=true
   exact ih.2
end Go.Proofs.YtkohkoiegmcghaaDoor
