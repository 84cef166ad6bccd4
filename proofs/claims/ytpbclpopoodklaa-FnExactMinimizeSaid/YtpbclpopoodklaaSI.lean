/- Lemmas for the proof of FnExactMaximize, part 28 of 56: no condition of their own. -/
import Derived.Test.YtpbclpopoodklaaSH
namespace Go.Proofs.Ytpbclpopoodklaa
set_option linter.unusedSimpArgs false
set_option linter.unusedVariables false
open Go.RowKit
def KeepD (d:Option Nat) (a a1:Act):Prop:=∀ t,d ≠ some t→a1.tmps.getD t undef=a.tmps.getD t undef
theorem keepD_put (d:Option Nat) (a:Act) (v:Value):KeepD d a (a.put d v):=by
  intro t ht
  cases d with
  | none=>rfl
  | some e =>
    have hne:e ≠ t:=fun h=>ht (by rw [h])
    simp [Act.put,Array.getD_eq_getD_getElem?,Array.getElem?_setIfInBounds_ne hne]
theorem keepD_df (d:Option Nat) (a:Act) (v:Value) (x:Deferred):KeepD d a (({ a with defers:=x :: a.defers }:Act).put d v):=by
  intro t ht
  cases d with
  | none=>rfl
  | some e =>
    have hne:e ≠ t:=fun h=>ht (by rw [h])
    simp [Act.put,Array.getD_eq_getD_getElem?,Array.getElem?_setIfInBounds_ne hne]
section
variable {P:Program} {ops:Array Oper} {Q:Exit→Act→World→Prop} {i:Nat} {o:Oper} {nx nx':Act→World→Prop} {a:Act} {w:World}
theorem wpOp_keep (hi:ops[i]? = some o) (h:wpOp P ops Q i nx a w):wpOp P ops Q i (fun a1 w1=>nx a1 w1∧KeepD o.dst a a1) a w:=by
  unfold wpOp at h ⊢
  rw [hi] at h ⊢
  simp only at h ⊢
  by_cases hw:Region.wanted o (yielded ops a.tmps)=true
  · rw [if_pos hw] at h ⊢
    rcases h with h | h
    · left
      unfold Oper.wp at h ⊢
      cases hr:(execOp a.eval o).run P w with
      | ok n w' =>
        rw [hr] at h
        cases n with
        | value v=>exact ⟨h,keepD_put _ _ _⟩
        | skip=>exact ⟨h,keepD_put _ _ _⟩
        | defer d=>exact ⟨h,keepD_df _ _ _ _⟩
        | enter f args =>
          refine Calls.mono h ?_
          intro e w'' hh
          cases e with
          | returned v=>exact ⟨hh,keepD_put _ _ _⟩
          | panicked c=>exact hh
          | outgrown=>exact hh
        | row r args=>exact Rows.mono h fun v w'' hh=>⟨hh,keepD_put _ _ _⟩
        | _=>exact h
      | halt s w' =>
        rw [hr] at h
        cases s <;> exact h
    · exact .inr h
  · rw [if_neg hw] at h ⊢
    exact ⟨h,keepD_put _ _ _⟩
def OutQ (Q:Exit→Act→World→Prop):Exit→Act→World→Prop:=fun e a w=>e=.normal∧Q e a w
theorem wpOp_q (hi:ops[i]? = some o) (h:wpOp P ops (OutQ Q) i nx a w):wpOp P ops Q i nx a w:=by
  have hlo:¬ LetsOut (OutQ Q):=fun ⟨a,w,h,_⟩=>by cases h
  have hne:∀ c a w,¬ OutQ Q (.panic c) a w:=fun c a w h=>by cases h.1
  unfold wpOp at h ⊢
  rw [hi] at h ⊢
  simp only at h ⊢
  by_cases hw:Region.wanted o (yielded ops a.tmps)=true
  · rw [if_pos hw] at h ⊢
    rcases h with h | ⟨h,hh⟩
    · left
      unfold Oper.wp at h ⊢
      cases hr:(execOp a.eval o).run P w with
      | ok n w' =>
        rw [hr] at h
        cases n with
        | enter f args =>
          refine Calls.mono h ?_
          intro e w'' hh
          cases e with
          | returned u=>exact hh
          | panicked c=>exact (hne _ _ _ hh).elim
          | outgrown=>exact (hlo hh).elim
        | _=>exact h
      | halt s w' =>
        rw [hr] at h
        cases s with
        | panic u=>exact (hne _ _ _ h).elim
        | _=>exact h
    · exact (hlo hh).elim
  · rw [if_neg hw] at h ⊢
    exact h
theorem wpOp_float {o0:Oper} {v:Value} (hi:ops[i]? = some o) (hap:o0.apart ops o=true) (hsel:∀ cs b,o.op ≠ .select cs b) (h:wpOp P ops (OutQ Q) i nx (a.put o0.dst v) w) (hn:∀ a1 w1,nx (a1.put o0.dst v) w1→nx' a1 w1):wpOp P ops Q i nx' a w:=by
  obtain ⟨h1,h2,h3⟩:=Oper.apart_spec hap
  have he:execOp (a.put o0.dst v).eval o=execOp a.eval o:=execOp_put (ops:=ops) o hsel a _ v h1
  have hwt:=wanted_put (ops:=ops) o a o0.dst v h1
  have hput:∀ u,(a.put o0.dst v).put o.dst u=(a.put o.dst u).put o0.dst v:=fun u=>Act.put_comm a v u h2
  have hlo:LetsOut (OutQ Q)→LetsOut Q:=fun ⟨a,w,h,_⟩=>by cases h
  have hne:∀ c a w,¬ OutQ Q (.panic c) a w:=fun c a w h=>by cases h.1
  unfold wpOp at h ⊢
  rw [hi] at h ⊢
  simp only at h ⊢
  rw [hwt] at h
  by_cases hw:Region.wanted o (yielded ops a.tmps)=true
  · rw [if_pos hw] at h ⊢
    rcases h with h | ⟨h,hh⟩
    · left
      unfold Oper.wp at h ⊢
      rw [he] at h
      cases hr:(execOp a.eval o).run P w with
      | ok n w' =>
        rw [hr] at h
        cases n with
        | value u =>
          have h:nx ((a.put o0.dst v).put o.dst u) w':=h
          rw [hput] at h;exact hn _ _ h
        | skip =>
          have h:nx ((a.put o0.dst v).put o.dst undef) w':=h
          rw [hput] at h;exact hn _ _ h
        | defer d =>
          have h:nx ((({ a.put o0.dst v with defers:=d :: (a.put o0.dst v).defers }:Act)).put o.dst undef) w':=h
          rw [Act.put_defers,Act.put_comm _ v undef h2] at h;exact hn _ _ h
        | enter f args =>
          refine Calls.mono h ?_
          intro e w'' hh
          cases e with
          | returned u =>
            have hh:nx ((a.put o0.dst v).put o.dst u) w'':=hh
            rw [hput] at hh;exact hn _ _ hh
          | panicked c=>exact (hne _ _ _ hh).elim
          | outgrown=>exact hlo hh
        | row r args=>exact Rows.mono h fun u w'' hh=>by rw [hput] at hh;exact hn _ _ hh
        | _=>exact h
      | halt s w' =>
        rw [hr] at h
        cases s with
        | panic u=>exact (hne _ _ _ h).elim
        | _=>exact h
    · refine .inr ⟨?_,hlo hh⟩
      unfold Oper.asks at h ⊢
      rw [he] at h
      exact h
  · rw [if_neg hw] at h ⊢
    rw [hput] at h;exact hn _ _ h
end
def noSel:Op→Bool
  | .select _ _=>false
  | _=>true
def splitB (l:List Oper) (n:Nat):Bool:=match l[0]? with
  | some o0=>(List.range l.length).all fun i=>i == 0 || ((!decide (n≤i) || (List.range i).all fun j=>j == 0 || reachF l.toArray l.length i j) &&
      (reachF l.toArray l.length i 0 || match l[i]? with
        | some o=>o0.apart l.toArray o && noSel o.op
        | none=>false))
  | none=>false
section
variable {ty:TypeId→Option TyI}
theorem wp_drawSplit (ht:TabOK ty) (hm:Try.prog.follows .mixedOrders=true) {id:Nat} {l:List Oper} (n:Nat) {d0:Nat} {x0:Operand} {o0:Oper} (ho0:l[0]? = some o0) (hop0:o0.op=.move x0) (hd0:o0.dst=some d0) (hg0:o0.guard=none) (hn1:0<n) (hnl:n<l.length)
    (hB:drawB l ((List.range l.length).map (flAt l))=true) (hS:splitB l n=true) {X:Cx} {s:AS} {a:Act} {w:World} {Q:Exit→Act→World→Prop} {K:AS→Prop} (hr:Rel X s (a.put (some d0) (a.eval x0)) w.drew) (hw:wops ty X.N l ((l.take n).drop 1) 1 s K)
    (hs:∀ s1 a1 w1,K s1→Rel X s1 a1 w1→(∀ t,(∀ o∈(l.take n).drop 1,o.dst ≠ some t)→a1.tmps.getD t undef=(a.put (some d0) (a.eval x0)).tmps.getD t undef)→wpList Try.prog l.toArray (OutQ Q) (l.drop n) a1 w1):(Code.region id l.toArray true).wp Try.prog Q a w:=by
  have hwo:=wops_ok (ty:=ty) (N:=X.N) (ops:=l) (fls:=(List.range l.length).map (flAt l)) (fun i hi=>by simp [List.getD,hi]) ((l.take n).drop 1) 1 s (K:=K) (fun j hj=>by
    simp only [List.length_drop,List.length_take] at hj
    rw [List.getElem?_drop,List.getElem?_take_of_lt (by omega)]) hw
  have hlt:((l.take n).drop 1).length=n - 1:=by simp only [List.length_drop,List.length_take];omega
  rw [hlt] at hwo
  generalize hfl:(List.range l.length).map (flAt l)=fls at hB hwo
  have hchk:∀ i o,l[i]? = some o→(∀ e∈o.after,Region.binds .any e=true→e.on<i)∧∀ j,j<i→reachF l.toArray l.length i j=true∨∀ p,l[j]? = some p→Ind l (fls.getD j []) (fls.getD i []) p o:=by
    intro i o ho
    have hi:=(List.getElem?_eq_some_iff.1 ho).1
    have:=List.all_eq_true.1 hB i (List.mem_range.2 hi)
    rw [ho] at this
    simp only [Bool.and_eq_true] at this
    refine ⟨fun e he hb=>?_,fun j hj=>?_⟩
    · have h1:=List.all_eq_true.1 this.1 e (by simpa using he)
      rw [hb] at h1
      simpa using h1
    · have h1:=List.all_eq_true.1 this.2 j (List.mem_range.2 hj)
      simp only [Bool.or_eq_true] at h1
      rcases h1 with h1 | h1
      · exact .inl h1
      · refine .inr fun p hp=>?_
        rw [hp] at h1
        exact ind_of h1
  have hsp:∀ i o,l[i]? = some o→i ≠ 0→(n≤i→∀ j,0<j→j<i→reachF l.toArray l.length i j=true)∧(reachF l.toArray l.length i 0=true∨o0.apart l.toArray o=true∧∀ cs b,o.op ≠ .select cs b):=by
    intro i o ho hi0
    have hi:=(List.getElem?_eq_some_iff.1 ho).1
    unfold splitB at hS
    rw [ho0] at hS
    have:=List.all_eq_true.1 hS i (List.mem_range.2 hi)
    rw [ho] at this
    simp only [Bool.or_eq_true,Bool.and_eq_true,beq_iff_eq] at this
    rcases this with h1 | ⟨h1,h2⟩
    · exact absurd h1 hi0
    · refine ⟨fun hni j hj0 hji=>?_,?_⟩
      · rcases h1 with h1 | h1
        · simp at h1;omega
        · have:=List.all_eq_true.1 h1 j (List.mem_range.2 hji)
          simp only [Bool.or_eq_true,beq_iff_eq] at this
          rcases this with h | h
          · omega
          · exact h
      · rcases h2 with h2 | ⟨h2,h3⟩
        · exact .inl h2
        · refine .inr ⟨h2,fun cs b e=>?_⟩
          rw [e] at h3;cases h3
  let va:(Nat→Bool)→Act→Act:=fun d a'=>if d 0=true then a' else a'.put (some d0) (a'.eval x0)
  let pend:(Nat→Bool)→List Nat:=fun d=>(List.range n).filter fun j=>!d j && !(j == 0)
  refine wp_region_inv hm (fun d a' w'=>((∀ i,n≤i→d i=false)∧(∃ s1,Rel X s1 (va d a') w'∧aopsD ty X.N l fls (pend d) s1 K)∧∀ t,(∀ o∈(l.take n).drop 1,o.dst ≠ some t)→(va d a').tmps.getD t undef=(a.put (some d0) (a.eval x0)).tmps.getD t undef) ∨
    (∃ m,n<m∧m≤l.length∧(∀ j,0<j→(d j=true↔j<m))∧wpList Try.prog l.toArray (OutQ Q) (l.drop m) (va d a') w')) (fun i o ho=>(hchk i o (by simpa using ho)).1) ?_ ?_ ?_
  · refine .inl ⟨fun _ _=>rfl,⟨s,hr,?_⟩,fun t _=>rfl⟩
    have:pend (fun _=>false)=List.range' 1 (n - 1):=by
      show (List.range n).filter (fun j=>!false && !(j == 0))=_
      obtain ⟨m,rfl⟩:∃ m,n=m+1:=⟨n - 1,by omega⟩
      rw [List.range_succ_eq_map,List.filter_cons_of_neg (by simp),List.filter_eq_self.2 (by simp),List.range'_eq_map_range]
      simp [Nat.add_comm]
    rw [this];exact hwo
  · rintro d a' w' i o ho2 hd hdeps hcl hbig hI
    have ho':l[i]? = some o:=by simpa using ho2
    have hi:=(List.getElem?_eq_some_iff.1 ho').1
    have hreach:∀ j,reachF l.toArray l.length i j=true→d j=true:=fun j hj=>reachF_done (ops:=l.toArray) hcl l.length i j (fun o' h2=>by rw [ho2] at h2;cases h2;exact hdeps) hj
    by_cases hi0:i=0
    · subst hi0
      obtain rfl:o0=o:=by rw [ho0] at ho';exact Option.some.inj ho'
      unfold wpOp
      rw [ho2]
      simp only
      rw [if_pos (by simp [Region.wanted,hg0])]
      left
      unfold Oper.wp
      rw [show (execOp a'.eval o0).run Try.prog w'=.ok (.value (a'.eval x0)) w' by simp [execOp,hop0]]
      simp only [Oper.upon]
      rw [hd0]
      have e1:va (fun j=>if j=0 then true else d j) (a'.put (some d0) (a'.eval x0))=va d a':=by simp [va,hd]
      have e2:pend (fun j=>if j=0 then true else d j)=pend d:=by
        apply List.filter_congr
        intro x _
        by_cases ex:x=0
        · simp [ex]
        · simp [ex]
      rcases hI with ⟨h1,⟨s1,h2,h3⟩,h4⟩ | ⟨m,h1,h2,h3,h4⟩
      · refine .inl ⟨fun j hj=>by simp only [show ¬ j=0 by omega,if_false];exact h1 j hj,⟨s1,by rw [e1];exact h2,by rw [e2];exact h3⟩,by rw [e1];exact h4⟩
      · refine .inr ⟨m,h1,h2,fun j hj=>by simp only [show ¬ j=0 by omega,if_false];exact h3 j hj,by rw [e1];exact h4⟩
    · obtain ⟨hs1,hs2⟩:=hsp i o ho' hi0
      have h0i:¬ 0=i:=fun e=>hi0 e.symm
      have hdi:∀ a2,va (fun j=>if j=i then true else d j) a2=va d a2:=fun a2=>by simp only [va,if_neg h0i]
      have key:∀ (nx:Act→World→Prop),wpOp Try.prog l.toArray (OutQ Q) i nx (va d a') w'→wpOp Try.prog l.toArray Q i (fun a2 w2=>nx (va d a2) w2) a' w':=by
        intro nx hnx
        cases hd00:d 0 with
        | true =>
          have e1:va d a'=a':=by simp [va,hd00]
          rw [e1] at hnx
          have e2:(fun a2 w2=>nx (va d a2) w2)=nx:=by
            funext a2 w2
            simp [va,hd00]
          rw [e2];exact wpOp_q ho2 hnx
        | false =>
          rcases hs2 with h | ⟨hap,hsel⟩
          · have:=hreach 0 h
            rw [hd00] at this;cases this
          · have e1:va d a'=a'.put o0.dst (a'.eval x0):=by simp [va,hd00,hd0]
            rw [e1] at hnx
            have hx0:∀ a1:Act,KeepD o.dst a' a1→a1.eval x0=a'.eval x0:=fun a1 h1=>by
              cases x0 with
              | tmp t =>
                refine h1 t fun e=>?_
                have:=(Oper.apart_spec hap).2.2 t e
                refine this (List.mem_append_left _ (List.mem_filterMap.2 ⟨.tmp t,?_,rfl⟩))
                rw [hop0];simp [Op.operands]
              | _=>rfl
            have hf:=wpOp_float (P:=Try.prog) (ops:=l.toArray) (Q:=Q) (nx':=fun a2 w2=>nx (a2.put o0.dst (a'.eval x0)) w2) ho2 hap hsel hnx (fun a1 w1 h=>h)
            have hf2:=wpOp_keep ho2 hf
            refine wpOp_mono ?_ hf2
            rintro a2 w2 ⟨h1,h2⟩
            have:va d a2=a2.put o0.dst (a'.eval x0):=by simp only [va,hd00,hd0,Bool.false_eq_true,if_false];rw [hx0 a2 h2]
            rw [this];exact h1
      have suf:∀ m,m=i→n≤m→(∀ j,0<j→j<m→d j=true)→(∀ j,m≤j→d j=false)→wpList Try.prog l.toArray (OutQ Q) (l.drop m) (va d a') w'→wpOp Try.prog l.toArray Q i (fun a'' w''=>((∀ i_1,n≤i_1→(if i_1=i then true else d i_1)=false)∧(∃ s1,Rel X s1 (va (fun j=>if j=i then true else d j) a'') w''∧aopsD ty X.N l fls (pend fun j=>if j=i then true else d j) s1 K)∧∀ t,(∀ o∈(l.take n).drop 1,o.dst ≠ some t)→(va (fun j=>if j=i then true else d j) a'').tmps.getD t undef=(a.put (some d0) (a.eval x0)).tmps.getD t undef) ∨
    (∃ m,n<m∧m≤l.length∧(∀ j,0<j→((if j=i then true else d j)=true↔j<m))∧wpList Try.prog l.toArray (OutQ Q) (l.drop m) (va (fun j=>if j=i then true else d j) a'') w'')) a' w':=by
        rintro m rfl hnm hall hnone hwp
        have hdrop:l.drop m=o :: l.drop (m+1):=by
          obtain ⟨h1,h2⟩:=List.getElem?_eq_some_iff.1 ho'
          rw [← h2,List.getElem_cons_drop h1]
        rw [hdrop] at hwp
        have hop:wpOp Try.prog l.toArray (OutQ Q) m (wpList Try.prog l.toArray (OutQ Q) (l.drop (m+1))) (va d a') w':=by
          unfold wpOp;rw [ho2];exact hwp
        refine wpOp_mono ?_ (key _ hop)
        intro a2 w2 h
        refine .inr ⟨m+1,by omega,by omega,fun j hj=>?_,by rw [hdi];exact h⟩
        by_cases e:j=m
        · simp [e]
        · rw [if_neg e]
          constructor
          · intro hdj
            refine Nat.lt_succ_of_lt (Nat.lt_of_not_le fun hle=>?_)
            rw [hnone j hle] at hdj;cases hdj
          · intro hlt;exact hall j hj (by omega)
      rcases hI with ⟨h1,⟨s1,⟨G1,h2⟩,h3⟩,h4⟩ | ⟨m,h1,h2,h3,h4⟩
      · by_cases hin:i<n
        · obtain ⟨post,e1,e2⟩:=filter_split (fun j=>!d j && !(j == 0)) n i hin (by simp [hd,hi0])
          have h3':aopsD ty X.N l fls ((List.range n).filter fun j=>!d j && !(j == 0)) s1 K:=h3
          rw [e1] at h3'
          have hfr:=front (ty:=ty) (N:=X.N) ht ho' _ s1 (fun j hj p hp=>by
            obtain ⟨hj1,hj2⟩:=List.mem_filter.1 hj
            have hji:j<i:=List.mem_range.1 hj1
            rcases (hchk i o ho').2 j hji with h1 | h1
            · exfalso
              rw [hreach j h1] at hj2;simp at hj2
            · exact h1 p hp) h3'
          have hst:=stepD_ok (Q:=OutQ Q) (nx:=fun a2 w2=>∃ s2,aopsD ty X.N l fls ((List.range i).filter (fun j=>!d j && !(j == 0)) ++ post) s2 K∧Rel X s2 a2 w2) ht rfl h2 ho' hfr (fun s2 a2 w2 h5 h6=>⟨s2,h5,h6⟩)
          refine wpOp_mono ?_ (key _ (wpOp_keep ho2 hst))
          rintro a2 w2 ⟨⟨s2,h5,h6⟩,h7⟩
          refine .inl ⟨fun j hj=>?_,⟨s2,by rw [hdi];exact h6,?_⟩,fun t htt=>?_⟩
          · show (if j=i then true else d j)=false
            rw [if_neg (show ¬ j=i by omega)];exact h1 j hj
          · have e3:pend (fun j=>if j=i then true else d j)=(List.range n).filter (fun j=>(fun j=>!d j && !(j == 0)) j && !(j == i)):=by
              apply List.filter_congr
              intro x _
              by_cases ex:x=i
              · simp [ex]
              · simp [ex]
            rw [e3,e2];exact h5
          · rw [hdi,h7 t (htt o ?_),h4 t htt]
            refine List.mem_iff_getElem?.2 ⟨i - 1,?_⟩
            rw [List.getElem?_drop,List.getElem?_take_of_lt (by omega),show 1+(i - 1)=i by omega]
            exact ho'
        · have hni:n=i:=by
            refine Nat.le_antisymm (by omega) (Nat.le_of_not_lt fun hlt=>?_)
            have:=hreach n (hs1 (by omega) n hn1 hlt)
            rw [h1 n (Nat.le_refl _)] at this;cases this
          have hall:∀ j,0<j→j<n→d j=true:=fun j hj hjn=>hreach j (hs1 (by omega) j hj (by omega))
          have e0:pend d=[]:=by
            show (List.range n).filter (fun j=>!d j && !(j == 0))=[]
            rw [List.filter_eq_nil_iff]
            intro x hx
            by_cases ex:x=0
            · simp [ex]
            · simp [hall x (by omega) (List.mem_range.1 hx)]
          rw [e0] at h3
          exact suf n hni (Nat.le_refl _) hall h1 (hs s1 (va d a') w' h3 ⟨G1,h2⟩ h4)
      · have hmi:m=i:=by
          have hi1:¬ i<m:=fun hlt=>by
            have:=(h3 i (by omega)).2 hlt
            rw [hd] at this;cases this
          refine Nat.le_antisymm (by omega) (Nat.le_of_not_lt fun hlt=>?_)
          have:=(h3 m (by omega)).1 (hreach m (hs1 (by omega) m (by omega) hlt))
          omega
        refine suf m hmi (by omega) (fun j hj hjm=>(h3 j hj).2 hjm) (fun j hj=>?_) h4
        cases hdj:d j with
        | false=>rfl
        | true=>have:=(h3 j (by omega)).1 hdj;omega
  · rintro d a' w' hall hbig hI
    have hall:∀ i,i<l.length→d i=true:=fun i hi=>hall i (by simpa using hi)
    rcases hI with ⟨h1,_⟩ | ⟨m,h1,h2,h3,h4⟩
    · have:=h1 n (Nat.le_refl _)
      rw [hall n hnl] at this;cases this
    · have hml:m=l.length:=by
        refine Nat.le_antisymm h2 (Nat.le_of_not_lt fun hlt=>?_)
        have:=(h3 m (by omega)).1 (hall m hlt)
        omega
      subst hml
      have e1:va d a'=a':=by simp [va,hall 0 (by omega)]
      rw [List.drop_length,e1] at h4
      exact h4.2
end
theorem nb_ex (b:Nat):∃ o:Nat,o=1000000+(1000000+b):=⟨_,rfl⟩
noncomputable def nb (b:Nat):Nat:=Classical.choose (nb_ex b)
theorem nb_eq (b:Nat):nb b=1000000+(1000000+b):=Classical.choose_spec (nb_ex b)
theorem nb_ne {i o:Nat} (h:o≤1000000):(nb i=o)=False:=by rw [nb_eq];exact eq_false (by omega)
theorem ne_nb {i o:Nat} (h:o≤1000000):(o=nb i)=False:=by rw [nb_eq];exact eq_false (by omega)
theorem nb_inj {i j:Nat}:(nb i=nb j)=(i=j):=by rw [nb_eq,nb_eq];exact propext ⟨fun h=>by omega,fun h=>by omega⟩
theorem nb_beq {i o:Nat} (h:o≤1000000):(nb i == o)=false:=by rw [beq_eq_false_iff_ne,nb_eq];omega
theorem beq_nb {i o:Nat} (h:o≤1000000):(o == nb i)=false:=by rw [beq_eq_false_iff_ne,nb_eq];omega
def NamedB (X:Cx):Prop:=∀ b,X.A (1000000+b)=b
def hdV (b n c:Nat):DV:=.hv (.slice (some ⟨b,0,none⟩) n c)
noncomputable def rowSt (ob:Nat→Option (List AV)) (sx:Nat→AV) (tr b c n:Nat) (cells:List AV):AS :=
  ⟨fun t=>if t=tr then .d (hdV b n c) else scrub (fun _=>true) (fun o=>!(o == nb b)) (sx t),fun o=>if o=nb b then some cells else (ob o).map (List.map (scrub (fun _=>true) (fun o=>!(o == nb b))))⟩
theorem rel_row {X X':Cx} {G1 G2:Gh} {s s1:AS} {a a2:Act} {w1 w2:World} {sx:Nat→AV} {tr g k:Nat} {T:TypeId} {row:List DV} (hr:RelG X G1 s a w1) (hX0:X'.w0=w1) (hXL:∀ b,¬ X'.L b) (hXN:X'.N=X.N) (h2:RelG X' G2 s1 a2 w2)
    (htr:tr<X.N) (hb:s1.tm tr=.buf g T k row) (hne:row ≠ []) (hk:0<k) (hel:elemsOK k row=true) (hint:(flatD row).all isIntD=true) (hkeep:∀ t,t<X.N→t ≠ tr→CV G1 w1 (sx t) (a2.tmps.getD t undef)) (hA:NamedB X) :
    ∃ b c,s.ob (nb b)=none∧row.length≤c∧c≤maxLen∧Rel X (rowSt s.ob sx tr b c row.length ((flatD row).map .d)) a2 w2:=by
  have hbv:=h2.tm tr (by rw [hXN];exact htr)
  rw [hb] at hbv
  obtain ⟨h5,h6,h7,h8⟩:=hbv
  obtain ⟨a0,n,c0,vs,e1,e2,e3⟩:=h2.bf g
  obtain ⟨a',n',c',vs',e4,e5,e6,e7⟩:=wh_sl h8
  rw [h5,e1] at e4
  simp only [List.cons.injEq,Value.slice.injEq,and_true] at e4
  obtain ⟨rfl,rfl,rfl⟩:=e4
  have hn:0<n:=by rw [← e5];exact List.length_pos_iff.2 hne
  obtain ⟨b0,rfl,hg1,hg2⟩:=e2.head hn
  obtain ⟨b7,off7,ha7,hc7⟩:=e7.2.2.2.2.2 hn
  simp only [Option.some.injEq,Addr.mk.injEq,and_true] at ha7
  obtain ⟨rfl,rfl⟩:=ha7
  rw [hX0] at hg1
  have hfl:=cxk_flat hel e6
  have hblk:∀ b,b<w1.heap.size→w2.heap[b]? = w1.heap[b]?:=fun b hb=>by
    have:=h2.fr.block b (by rw [hX0];exact hb) (hXL b)
    rw [hX0] at this;exact this
  have hsz:w1.heap.size≤w2.heap.size:=by have:=h2.fr.size;rw [hX0] at this;exact this
  have hadlt:∀ q,s.ob q ≠ none→G1.ad q<w1.heap.size:=fun q hq=>by
    cases e:s.ob q with
    | none=>exact absurd e hq
    | some l=>exact (hr.ob q l e).1
  have hnone:s.ob (nb b0)=none:=by
    cases e:s.ob (nb b0) with
    | none=>rfl
    | some l =>
      have hq:s.ob (nb b0) ≠ none:=by rw [e];exact fun x=>(by cases x)
      have h1:=hadlt _ hq
      have h3:=hr.ln (1000000+b0) (by rw [← nb_eq];exact hq)
      rw [hA,← nb_eq] at h3
      omega
  have hbufb:∀ g b,(G1.hd g).ownBlock=some b→b<w1.heap.size:=fun g b hb=>by
    obtain ⟨a0,n0,c0,vs,e1,e2,_⟩:=hr.bf g
    exact (e2.1.lt b (by rw [← e1];exact hb)).2
  refine ⟨b0,c0,hnone,by rw [e5];exact e7.2.1,e7.2.2.1,?_⟩
  let G3:Gh:=⟨G1.C,G1.hd,G1.hT,G1.hk,fun q=>if q=nb b0 then b0 else G1.ad q⟩
  have hgle:GLe (fun _=>true) (fun o=>!(o == nb b0)) G1 G3 w1 w2:=⟨fun b i hc=>⟨hc,World.cell?_of_block (w:=w1) (hblk b (hr.cs b i hc))⟩,fun _ _=>⟨rfl,rfl,rfl⟩,fun o ho=>by
    have:o ≠ nb b0:=by simpa using ho
    simp [G3,this]⟩
  have had:∀ q,s.ob q ≠ none→G3.ad q=G1.ad q:=fun q hq=>by
    have:q ≠ nb b0:=fun e=>hq (by rw [e];exact hnone)
    simp [G3,this]
  have hobs:∀ q l,(rowSt s.ob sx tr b0 c0 row.length ((flatD row).map .d)).ob q=some l→(q=nb b0∧l=(flatD row).map .d)∨(q ≠ nb b0∧∃ l',s.ob q=some l'∧l=List.map (scrub (fun _=>true) (fun o=>!(o == nb b0))) l'):=fun q l hq=>by
    simp only [rowSt] at hq
    split at hq
    · rename_i e;cases hq;exact .inl ⟨e,rfl⟩
    · rename_i e
      cases e2:s.ob q with
      | none=>rw [e2] at hq;cases hq
      | some l'=>rw [e2] at hq;cases hq;exact .inr ⟨e,l',rfl,rfl⟩
  have hobn:∀ q,(rowSt s.ob sx tr b0 c0 row.length ((flatD row).map .d)).ob q ≠ none→(q=nb b0∧G3.ad q=b0)∨(q ≠ nb b0∧s.ob q ≠ none∧G3.ad q=G1.ad q):=fun q hq=>by
    cases e:(rowSt s.ob sx tr b0 c0 row.length ((flatD row).map .d)).ob q with
    | none=>exact absurd e hq
    | some l =>
      rcases hobs q l e with ⟨h1,_⟩ | ⟨h1,l',h3,_⟩
      · exact .inl ⟨h1,by simp [G3,h1]⟩
      · have:s.ob q ≠ none:=by rw [h3];exact fun x=>(by cases x)
        exact .inr ⟨h1,this,had q this⟩
  refine ⟨G3,⟨h2.fr.os.trans (by rw [hX0];exact hr.fr.os),h2.fr.tape.trans (by rw [hX0];exact hr.fr.tape),h2.fr.output.trans (by rw [hX0];exact hr.fr.output),Nat.le_trans hr.fr.size hsz,fun b hb hl=>(hblk b (Nat.lt_of_lt_of_le hb hr.fr.size)).trans (hr.fr.block b hb hl)⟩,h2.df,by rw [h2.n,hXN],fun t ht=>?_,fun q=>?_,fun q l hq=>?_,fun b i hc=>Nat.lt_of_lt_of_le (hr.cs b i hc) hsz,hr.d1,fun q q' h1 h3 e=>?_,fun q g' h1=>?_,fun q h1=>?_,hr.lc,hr.nl,fun i h1=>?_,hr.c0,fun b i hc hz=>?_⟩
  · show CV G3 w2 (if t=tr then _ else _) _
    by_cases e:t=tr
    · subst e
      rw [if_pos rfl,h5,e1,← e5]
      exact ⟨[_],⟨rfl,rfl⟩,.inr ⟨fun m e=>(by cases e),rfl⟩⟩
    · rw [if_neg e]
      exact CV.scrub hgle _ _ (hkeep t ht e)
  · obtain ⟨a9,n9,c9,vs9,q1,q2,q3⟩:=hr.bf q
    refine ⟨a9,n9,c9,vs9,q1,⟨⟨q2.1.1,?_⟩,q2.2⟩,q3⟩
    rcases q2.1.2 with p1 | ⟨g0,cap,cur,p1,p2,p3,p4⟩
    · exact .inl p1
    · refine .inr ⟨g0,cap,cur,p1,p2,?_,p4⟩
      rw [hblk g0 (Array.getElem?_eq_some_iff.1 p3).1]
      exact p3
  · rcases hobs q l hq with ⟨rfl,rfl⟩ | ⟨h1,l',h3,rfl⟩
    · have hadb:G3.ad (nb b0)=b0:=by simp [G3]
      refine ⟨by rw [hadb];exact hg2,fun i hc=>?_,vs',ints_cvs hint hfl,e7.2.2.2.2.1,fun i u hu=>?_⟩
      · rw [hadb] at hc
        have:=hr.cs b0 i hc
        omega
      · have:=hc7 i u hu
        rw [hadb]
        rw [Nat.zero_add] at this
        exact ⟨this.2,h2.uf b0 i this.1 (by rw [hX0];exact hg1)⟩
    · obtain ⟨g1,g2,us,g3,g4,g5⟩:=hr.ob q l' h3
      have hq0:s.ob q ≠ none:=by rw [h3];exact fun x=>(by cases x)
      have e8:=had q hq0
      refine ⟨by rw [e8];exact Nat.lt_of_lt_of_le g1 hsz,fun i hc=>?_,us,?_,g4,fun i u hu=>?_⟩
      · rw [e8] at hc;exact g2 i hc
      · rw [← scrubs_map];exact CVs.scrub hgle _ _ g3
      · rw [e8,World.cell?_of_block (w:=w1) (hblk _ g1),World.frozen?_of_block (w:=w1) (hblk _ g1)]
        exact g5 i u hu
  · rcases hobn q h1 with ⟨p1,p2⟩ | ⟨p1,p2,p3⟩
    · rcases hobn q' h3 with ⟨r1,r2⟩ | ⟨r1,r2,r3⟩
      · exact p1.trans r1.symm
      · have:=hadlt q' r2;rw [p2,r3] at e;omega
    · rcases hobn q' h3 with ⟨r1,r2⟩ | ⟨r1,r2,r3⟩
      · have:=hadlt q p2;rw [p3,r2] at e;omega
      · rw [p3,r3] at e;exact hr.d2 q q' p2 r2 e
  · rcases hobn q h1 with ⟨p1,p2⟩ | ⟨p1,p2,p3⟩
    · rw [p2]
      intro e
      have:=hbufb g' _ e
      omega
    · rw [p3];exact hr.d3 q g' p2
  · rcases hobn q h1 with ⟨p1,p2⟩ | ⟨p1,p2,p3⟩
    · rw [p2]
      have:=hr.fr.size
      exact ⟨fun hlt=>by rw [p1,nb_eq] at hlt;omega,.inl (by omega)⟩
    · rw [p3];exact hr.ow q p2
  · rcases hobn _ h1 with ⟨p1,p2⟩ | ⟨p1,p2,p3⟩
    · rw [p2]
      rw [nb_eq] at p1
      have:i=1000000+b0:=by omega
      rw [this,hA]
    · rw [p3];exact hr.ln i p2
  · show w2.frozen? ⟨b,i,none⟩=false
    rw [World.frozen?_of_block (w:=w1) (hblk b (hr.cs b i hc))]
    exact hr.uf b i hc hz
theorem rel_bare {X:Cx} {G:Gh} {s:AS} {a:Act} {w:World} (h:RelG X G s a w):∃ X':Cx,X'.w0=w∧(∀ b,¬ X'.L b)∧X'.N=X.N∧Rel X' ⟨fun t=>scrub (fun _=>false) (fun _=>false) (s.tm t),fun _=>none⟩ a w:=by
  let G':Gh:=⟨G.C,fun _=>.slice none 0 0,fun _=>0,fun _=>0,G.ad⟩
  have hgle:GLe (fun _=>false) (fun _=>false) G G' w w:=⟨fun b i hc=>⟨hc,rfl⟩,fun _ h=>(by cases h),fun _ h=>(by cases h)⟩
  refine ⟨⟨w,fun _=>False,G.C,X.N,fun _=>0,fun _ h=>h.elim,h.cs⟩,rfl,fun _ h=>h,rfl,G',⟨rfl,rfl,rfl,Nat.le_refl _,fun _ _ _=>rfl⟩,h.df,h.n,fun t ht=>CV.scrub hgle _ _ (h.tm t ht),fun g=>⟨none,0,0,[],rfl,ownF_nil _ _ _ _,fun b hb=>by cases hb⟩,fun o l ho=>(by cases ho),h.cs,fun g g' _ _=>rfl,fun o o' ho=>absurd rfl ho,fun o g ho=>absurd rfl ho,fun o ho=>absurd rfl ho,fun b i hc _=>hc,fun b i _ hl=>hl,fun i ho=>absurd rfl ho,fun b i hc=>hc,fun b i hc hz=>?_⟩
  have:=h.cs b i hc
  have hz:w.heap.size≤b:=hz
  omega
section
variable {P:Cx→Prop} {N:Nat} {Q:Exit→AS→Prop} {s:AS} {ty:TypeId→Option TyI}
def keptT (ds:List Nat) (d0:Nat) (x0:AV) (s:AS):Nat→AV:=fun t=>if t=d0 then x0 else if ds.contains t=true then .junk else s.tm t
def dstIn (ds:List Nat) (o:Oper):Bool:=match o.dst with
  | some t=>ds.contains t
  | none=>true
theorem awp_drawRow (ds:List Nat) (ht:TabOK ty) (hm:Try.prog.follows .mixedOrders=true) {id:Nat} {l:List Oper} (n tr:Nat) {d0:Nat} {x0:Operand} {o0:Oper} (ho0:l[0]? = some o0) (hop0:o0.op=.move x0) (hd0:o0.dst=some d0) (hg0:o0.guard=none) (hn1:0<n) (hnl:n<l.length)
    (hB:drawB l ((List.range l.length).map (flAt l))=true) (hS:splitB l n=true) (hdN:d0<N) (htN:tr<N) (hds:((l.take n).drop 1).all (dstIn ds)=true) (hd0n:ds.contains d0=false) {s':AS} (hle:SLe ⟨fun t=>scrub (fun _=>false) (fun _=>false) (s.tm t),fun _=>none⟩ s') (hj:s'.tm d0=.junk) (hA:∀ X,P X→NamedB X)
    (h:∀ K0:AS→Prop,(∀ s,Q .normal s→K0 s)→∀ K:AS→Prop,(∀ s1,(∃ g T k row,s1.tm tr=.buf g T k row∧row ≠ []∧0<k∧elemsOK k row=true∧(flatD row).all isIntD=true ∧
      ∀ b c,s.ob (nb b)=none→row.length≤c→c≤maxLen→aops ty N l (l.drop n) (rowSt s.ob (keptT ds d0 (ev N s x0) s) tr b c row.length ((flatD row).map .d)) K0)→K s1)→wops ty N l ((l.take n).drop 1) 1 s' K):AWp P N (.region id l.toArray true) Q s:=by
  intro X a w hN hP ⟨G,hr⟩
  subst hN
  have hrd:=hr.drew
  obtain ⟨X',hX0,hXL,hXN,hr'⟩:=rel_bare hrd
  have hr2:=hr'.weak hle
  have hr3:Rel X' s' (a.put (some d0) (a.eval x0)) w.drew:=by
    obtain ⟨G',q⟩:=hr2
    have:=q.put d0 (x:=.junk) (v:=a.eval x0) trivial
    have e:s'.put d0 .junk=s':=by
      unfold AS.put
      have:(fun t=>if t=d0 then AV.junk else s'.tm t)=s'.tm:=by
        funext t
        by_cases e:t=d0
        · rw [if_pos e,e,hj]
        · rw [if_neg e]
      rw [this]
    rw [e] at this
    exact ⟨G',this⟩
  refine wp_drawSplit ht hm n ho0 hop0 hd0 hg0 hn1 hnl hB hS hr3 (by rw [hXN];exact h (Q .normal) (fun _ h=>h) _ fun _ h=>h) ?_
  rintro s1 a1 w1 ⟨g,T,k,row,g1,g2,g3,g4,g5,g6⟩ ⟨G2,h2⟩ hk
  have hkp:∀ t,t<X.N→t ≠ tr→CV G w.drew (keptT ds d0 (ev X.N s x0) s t) (a1.tmps.getD t undef):=fun t htt hne=>by
    unfold keptT
    by_cases e:t=d0
    · rw [if_pos e,hk t fun o ho e2=>by
        have:=List.all_eq_true.1 hds o ho
        simp only [dstIn,e2,e,hd0n] at this
        cases this]
      have:(a.put (some d0) (a.eval x0)).tmps.getD t undef=a.eval x0:=by
        subst e
        simp [Act.put,Array.getD_eq_getD_getElem?,show t<a.tmps.size by rw [hr.n];exact htt]
      rw [this]
      exact hrd.ev x0
    · rw [if_neg e]
      by_cases e5:ds.contains t=true
      · rw [if_pos e5];trivial
      · rw [if_neg e5,hk t fun o ho e2=>e5 (by have:=List.all_eq_true.1 hds o ho;simp only [dstIn,e2] at this;exact this)]
        have:(a.put (some d0) (a.eval x0)).tmps.getD t undef=a.tmps.getD t undef:=keepD_put _ _ _ t (fun h=>e (by cases h;rfl))
        rw [this]
        exact hrd.tm t htt
  obtain ⟨b,c,e1,e2,e3,hrel⟩:=rel_row (sx:=keptT ds d0 (ev X.N s x0) s) hrd hX0 hXL hXN h2 htN g1 g2 g3 g4 g5 hkp (hA X hP)
  exact aops_ok (X:=X) ht (Q:=OutQ fun e a' w'=>∃ s',Q e s'∧Rel X s' a' w') (fun s' _ _ h1 h2=>⟨rfl,s',h1,h2⟩) _ _ a1 w1 (g6 b c e1 e2 e3) hrel
end
theorem cvs_ad {G:Gh} {w:World} (f:Nat→Nat):∀ (l:List DV) (vs:List Value),CVs G w (l.map AV.d) vs→CVs { G with ad:=f } w (l.map AV.d) vs
  | [],_,h=>h
  | x :: l,_,h=>by
    obtain ⟨v,us,rfl,q1,q2⟩:=h
    exact ⟨v,us,rfl,q1,cvs_ad f l _ q2⟩
theorem afn_ofN {f N:Nat} {fn:Func} {c:Code} {args:List DV} {R:AV→List (List AV)→Prop} {ty:TypeId→Option TyI} {rv:List ResultVar} (ht:TabOK ty) (hf:Try.prog.funcs[f]? = some fn) (hb:fn.body=some c) (hnm:(fn.name == "runtime.NumGoroutine")=false)
    (hN:fn.ntmps=N) (hrv:fn.results.toList=rv) (hargs:(args.map AV.d).length≤N) (h:AWp NamedB N c (EndA ty N 0 rv R) (entS (args.map AV.d) [])):AFn f (args.map AV.d) [] R:=by
  refine ⟨⟨fn,hf,hnm,by rw [hb];rfl⟩,fun w G vs h1 h2 h3 h4=>?_⟩
  refine (afn_core ht hf hb hN hrv hargs h w { G with ad:=fun i=>i - 1000000 } vs (cvs_ad _ _ _ h1) h2 (fun i l hl=>by simp at hl) (fun i j hi=>by simp at hi) (fun X _ _ hA b=>by rw [hA];simp)).mono ?_
  rintro e w' ⟨v,r,os',G',rfl,hp⟩
  exact ⟨v,r,os',G',rfl,hp.post,hp.res,⟨hp.fr.os,hp.fr.tape,hp.fr.output,hp.fr.size,fun b hb hl=>hp.fr.block b hb (fun ⟨i,hi,_⟩=>by simp at hi)⟩,hp.st,hp.le,hp.ob,fun i hi=>by simp at hi,hp.adn,hp.d2,hp.cs,hp.lc,hp.bf,hp.d1,hp.d3,hp.uf⟩
end Go.Proofs.Ytpbclpopoodklaa
