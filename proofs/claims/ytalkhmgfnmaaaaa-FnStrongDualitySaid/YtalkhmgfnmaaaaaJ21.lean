/- Lemmas for the proof of FnMinimum, part 21 of 24: no condition of their own. -/
import Derived.Test.YtalkhmgfnmaaaaaJ20
import Derived.Test.YtalkhmgfnmaaaaaJ14
import Derived.Test.YtalkhmgfnmaaaaaJ13
import Derived.Test.YtalkhmgfnmaaaaaJ16
import Derived.Test.YtalkhmgfnmaaaaaJ19
import Derived.Test.YtalkhmgfnmaaaaaJ6
namespace Go.Proofs.Ytalkhmgfnmaaaaa
set_option linter.unusedSimpArgs false
set_option linter.unusedVariables false
open Go.RowKit
theorem vR_mk {t:Int×Int×Bool} (h:FitQ t) (ht:t.2.2=true):vR (rq t)=true:=h.1 ht
theorem dotTo_v {a b:List RatD}:∀ {k:Nat} {s:RatD},dotTo a b k=some s→vR s=true
 | 0,s,h=>by simp only [dotTo,Option.some.injEq] at h;subst h;decide +kernel
 | k+1,s,h=>by
  simp only [dotTo] at h
  split at h
  ·cases h
  ·split at h
   ·rename_i s0 _ hc
    simp only [Option.some.injEq] at h
    subst h
    exact vR_mk (fitAdd _ _) hc.2
   ·cases h
theorem dotF_v {a b:List RatD} {s:RatD} (h:dotF a b=some s):vR s=true:=by
 unfold dotF at h
 split at h
 ·exact dotTo_v h
 ·cases h
theorem cmpQ_lt {x y:RatD} (hx:vR x=true) (hy:vR y=true):cmpQ x y<0↔x.num*y.den<y.num*x.den:=by
 have hb:bothOK x.num x.den y.num y.den=true:=by simp only [bothOK,Bool.and_eq_true];exact ⟨hx,hy⟩
 unfold cmpQ cmpRat
 rw [if_pos hb]
 unfold cmpI
 split
 ·rename_i h;exact ⟨fun _=>h,fun _=>by decide⟩
 ·split
  ·rename_i h1 h2;exact ⟨fun h=>absurd h (by decide),fun h=>absurd h h1⟩
  ·rename_i h1 h2;exact ⟨fun h=>absurd h (by decide),fun h=>absurd h h1⟩
theorem vR_den {x:RatD} (h:vR x=true):0<x.den:=(ratOK_b h).2.2
theorem lt_tr {x y z:RatD} (hx:0<x.den) (hy:0<y.den) (hz:0<z.den) (h1:x.num*y.den<y.num*x.den) (h2:y.num*z.den≤z.num*y.den):x.num*z.den<z.num*x.den:=by
 have k1:x.num*y.den*z.den<y.num*x.den*z.den:=Int.mul_lt_mul_of_pos_right h1 hz
 have k2:y.num*z.den*x.den≤z.num*y.den*x.den:=Int.mul_le_mul_of_nonneg_right h2 (Int.le_of_lt hx)
 have e1:y.num*x.den*z.den=y.num*z.den*x.den:=by rw [Int.mul_right_comm]
 have e2:x.num*y.den*z.den=x.num*z.den*y.den:=by rw [Int.mul_right_comm]
 have e3:z.num*y.den*x.den=z.num*x.den*y.den:=by rw [Int.mul_right_comm]
 rw [e1] at k1
 have k3:x.num*z.den*y.den<z.num*x.den*y.den:=by omega
 exact Int.lt_of_mul_lt_mul_right k3 (Int.le_of_lt hy)
structure BestOK (C:List RatD) (V:List (List RatD)) (sg:Int) (b:BestS):Prop where
 at':b.found=true→b.pt∈V∧dotF C b.pt=some b.val
 best:∀ y∈V,∀ u,dotF C y=some u→b.found=true∧¬ sg*cmpQ u b.val<0
theorem cmpQ_neg {x y:RatD} (hx:vR x=true) (hy:vR y=true):(-1)*cmpQ x y<0↔y.num*x.den<x.num*y.den:=by
 have hb:bothOK x.num x.den y.num y.den=true:=by simp only [bothOK,Bool.and_eq_true];exact ⟨hx,hy⟩
 unfold cmpQ cmpRat
 rw [if_pos hb]
 unfold cmpI
 split
 ·rename_i h;exact ⟨fun h=>absurd h (by decide),fun _=>by omega⟩
 ·split
  ·rename_i h1 h2;exact ⟨fun _=>h2,fun _=>by decide⟩
  ·rename_i h1 h2;exact ⟨fun h=>absurd h (by decide),fun h=>absurd h h2⟩
theorem sg_tr {sg:Int} (hsg:sg=1∨sg = -1) {u v b:RatD} (hu:vR u=true) (hv:vR v=true) (hb:vR b=true) (h1:¬ sg*cmpQ u b<0) (h2:sg*cmpQ v b<0):¬ sg*cmpQ u v<0:=by
 have du:=vR_den hu
 have dv:=vR_den hv
 have db:=vR_den hb
 rcases hsg with rfl | rfl
 ·rw [Int.one_mul,cmpQ_lt] at h1 h2 ⊢ <;> try assumption
  intro h3
  exact h1 (lt_tr du dv db h3 (Int.le_of_lt h2))
 ·rw [cmpQ_neg] at h1 h2 ⊢ <;> try assumption
  intro h3
  exact h1 (lt_tr db dv du h2 (Int.le_of_lt h3))
theorem cmpQ_self (x:RatD):cmpQ x x=0:=by
 unfold cmpQ cmpRat cmpI
 split <;> simp
theorem best_ok (C:List RatD) (V:List (List RatD)) {sg:Int} (hsg:sg=1∨sg = -1):∀ i,i≤V.length→BestOK C (V.take i) sg (bestTo C V sg i)∧((bestTo C V sg i).found=false→bestTo C V sg i=best0)
 | 0,_=>by
  refine ⟨⟨fun h=>?_,fun y hy=>?_⟩,fun _=>rfl⟩
  ·simp [bestTo,best0] at h
  ·simp at hy
 | i+1,hi=>by
  obtain ⟨⟨h1,h2⟩,h3⟩:=best_ok C V hsg i (by omega)
  rw [bestTo_succ C sg (by omega)]
  have ht:V.take (i+1)=V.take i ++ [mx V i]:=by rw [List.take_add_one,List.getElem?_eq_getElem (by omega)];simp [mx,show i<V.length by omega]
  rw [ht]
  generalize bestTo C V sg i=b at *
  generalize mx V i=x at *
  unfold bestT
  cases hd:dotF C x with
  | none =>
   refine ⟨⟨fun h=>⟨List.mem_append_left _ (h1 h).1,(h1 h).2⟩,fun y hy u hu=>?_⟩,h3⟩
   rcases List.mem_append.1 hy with hy | hy
   ·exact h2 y hy u hu
   ·rw [List.mem_singleton] at hy;subst hy;rw [hd] at hu;cases hu
  | some v =>
   have hv:=dotF_v hd
   by_cases hb:b.found=false∨sg*cmpQ v b.val<0
   ·simp only [hb,if_true]
    refine ⟨⟨fun _=>⟨by simp,hd⟩,fun y hy u hu=>⟨rfl,?_⟩⟩,fun h=>(by cases h)⟩
    rcases List.mem_append.1 hy with hy | hy
    ·obtain ⟨g1,g2⟩:=h2 y hy u hu
     rcases hb with hb | hb
     ·rw [g1] at hb;cases hb
     ·exact sg_tr hsg (dotF_v hu) hv (dotF_v (h1 g1).2) g2 hb
    ·rw [List.mem_singleton] at hy;subst hy;rw [hd] at hu;cases hu
     rw [cmpQ_self];omega
   ·simp only [hb,if_false]
    have hf:b.found=true:=by
     cases e:b.found with
     | true=>rfl
     | false=>exact absurd (.inl e) hb
    refine ⟨⟨fun h=>⟨List.mem_append_left _ (h1 h).1,(h1 h).2⟩,fun y hy u hu=>?_⟩,h3⟩
    rcases List.mem_append.1 hy with hy | hy
    ·exact h2 y hy u hu
    ·rw [List.mem_singleton] at hy;subst hy;rw [hd] at hu;cases hu
     exact ⟨hf,fun h=>hb (.inr h)⟩
theorem bestF_ok (C:List RatD) (V:List (List RatD)) {sg:Int} (hsg:sg=1∨sg = -1):BestOK C V sg (bestF C V sg):=by
 have:=(best_ok C V hsg V.length (Nat.le_refl _)).1
 rwa [bestTo_all,List.take_length] at this
theorem leafF_feas {A:List (List RatD)} {B Cc:List RatD} {rows:List (List RatD)} {right:List RatD} {sg:Int} {ch:List Nat} {outs:List (List RatD)} (h:∀ y∈outs,feasF A B Cc y sg=true):∀ y∈leafF A B Cc rows right sg ch outs,feasF A B Cc y sg=true:=by
 unfold leafF
 split
 ·exact h
 ·rename_i x hx
  split
  ·rename_i hf
   split
   ·exact h
   ·intro y hy
    rcases List.mem_append.1 hy with hy | hy
    ·exact h y hy
    ·rw [List.mem_singleton] at hy;subst hy;exact hf
  ·exact h
theorem vert_feas {A:List (List RatD)} {B Cc:List RatD} {sg:Int} (h:lpV A B Cc=true):∀ y∈vertF A B Cc sg,feasF A B Cc y sg=true:=by
 rw [vert_pick h]
 exact foldl_inv (fun o:List (List RatD)=>∀ y∈o,feasF A B Cc y sg=true) _ _ _ (fun y hy=>(by cases hy)) fun a b _ ha=>leafF_feas ha
end Go.Proofs.Ytalkhmgfnmaaaaa
namespace Go.Proofs.Ytalkhmgfnmaaaaa
set_option linter.unusedSimpArgs false
set_option linter.unusedVariables false
open Go.RowKit
def S3 (x:RatD):Prop:=vR x=true∧(1≤x.den∧x.den≤3)∧x.num.natAbs≤3
theorem s3_six {x:RatD} (h:S3 x):∃ w:Int,w.natAbs≤18∧qv x=(w:Rat) / ((6:Int):Rat):=by
 obtain ⟨_,hd,hn⟩:=h
 have key:∀ q:Int,x.den*q=6→q.natAbs≤6→∃ w:Int,w.natAbs≤18∧qv x=(w:Rat) / ((6:Int):Rat):=fun q hq hb =>
  ⟨x.num*q,Nat.le_trans (abs_mul_le hn hb) (by omega),by
   unfold qv
   refine quot_conv (by omega) (by omega) ?_
   rw [Int.mul_assoc,Int.mul_comm q,hq]⟩
 have:x.den=1∨x.den=2∨x.den=3:=by omega
 rcases this with e | e | e
 ·exact key 6 (by omega) (by omega)
 ·exact key 3 (by omega) (by omega)
 ·exact key 2 (by omega) (by omega)
theorem s3_row {n:Nat} {l:List RatD} (h:∀ k,k<n+1→S3 (qx l k)):∃ w d,Row n (fun k=>qv (qx l k)) w d 18 6:=by
 obtain ⟨w,hw⟩:∃ w:Nat→Int,∀ k,k<n+1→(w k).natAbs≤18∧qv (qx l k)=(w k:Rat) / ((6:Int):Rat) :=
  Classical.axiomOfChoice (r:=fun k (w:Int)=>k<n+1→w.natAbs≤18∧qv (qx l k)=(w:Rat) / ((6:Int):Rat)) fun k=>by
   by_cases hk:k<n+1
   ·obtain ⟨w,h1⟩:=s3_six (h k hk)
    exact ⟨w,fun _=>h1⟩
   ·exact ⟨0,fun g=>absurd g hk⟩
 exact ⟨w,6,by omega,by omega,fun k hk=>(hw k hk).1,fun k hk=>(hw k hk).2⟩
theorem dot_fits {a x:List RatD} {n:Nat} {D:Int} {X:Nat→Int} (hn:n≤5) (ha:a.length=n) (hx:x.length=n) (hs:∀ k,k<n→S3 (qx a k)) (hv:∀ k,k<n→vR (qx x k)=true) (hD:D ≠ 0) (hDb:D.natAbs≤34992) (hX:∀ k,k<n→(X k).natAbs≤34992∧qv (qx x k)=(X k:Rat) / (D:Rat)) :
 ∀ k,k≤n→∃ s,dotTo a x k=some s∧vR s=true∧∃ w:Int,w.natAbs≤k*629856∧qv s=(w:Rat) / ((6*D:Int):Rat)
 | 0,_=>⟨⟨0,1⟩,rfl,by decide,0,by omega,by simp [qv];grind⟩
 | k+1,hk=>by
  obtain ⟨s,e,v,w,hw,hq⟩:=dot_fits hn ha hx hs hv hD hDb hX k (by omega)
  obtain ⟨u,hu,hqu⟩:=s3_six (hs k (by omega))
  have h6:(6*D:Int) ≠ 0:=mul_ne (by omega) hD
  have hb6:(6*D).natAbs≤1000000000:=by omega
  have e1:qv (qx a k)*qv (qx x k)=((u*X k:Int):Rat) / ((6*D:Int):Rat):=by
   rw [hqu,(hX k (by omega)).2]
   have k1:=castNe (d:=6) (by omega)
   have k2:=castNe hD
   have k3:=castNe h6
   simp only [Rat.intCast_mul] at k3 ⊢
   have m1:=Rat.div_mul_cancel (a:=(u:Rat)) k1
   have m2:=Rat.div_mul_cancel (a:=(X k:Rat)) k2
   have m3:=Rat.div_mul_cancel (a:=(u:Rat)*(X k:Rat)) k3
   generalize (u:Rat) / ((6:Int):Rat)=P at *
   generalize (X k:Rat) / (D:Rat)=Q at *
   generalize (u:Rat)*(X k:Rat) / (((6:Int):Rat)*(D:Rat))=T at *
   have:(((6:Int):Rat)*(D:Rat))*(P*Q)=(((6:Int):Rat)*(D:Rat))*T:=by grind
   grind
  have hb1:(u*X k).natAbs≤629856:=Nat.le_trans (abs_mul_le hu (hX k (by omega)).1) (by omega)
  obtain ⟨p1,p2,p3⟩:=mulQ_fits (hs k (by omega)).1 (hv k (by omega)) (by rw [e1];exact fits_of h6 hb6 (by omega))
  have e2:qv s+qv (rq (mulQ (qx a k) (qx x k)))=((w+u*X k:Int):Rat) / ((6*D:Int):Rat):=by
   rw [p3,e1,hq,Rat.intCast_add]
   have:=castNe h6
   generalize ((6*D:Int):Rat)=T at *
   grind
  obtain ⟨q1,q2,q3⟩:=addQ_fits v p2 (by rw [e2];exact fits_of h6 hb6 (by omega))
  refine ⟨_,by simp only [dotTo,e];exact if_pos ⟨p1,q1⟩,q2,w+u*X k,by omega,by rw [q3,e2]⟩
theorem sub_range {i:Nat} {L:List Nat}:∀ (m k:Nat),(i :: L).Sublist (List.range' k m)→k≤i∧i<k+m∧L.Sublist (List.range' (i+1) (k+m - (i+1)))
 | 0,k,h=>by simp at h
 | m+1,k,h=>by
  rw [List.range'_succ] at h
  cases h with
  | cons _ h =>
   obtain ⟨h1,h2,h3⟩:=sub_range m (k+1) h
   exact ⟨by omega,by omega,by rwa [show k+(m+1) - (i+1)=k+1+m - (i+1) by omega]⟩
  | cons_cons _ h=>exact ⟨by omega,by omega,by rwa [show i+(m+1) - (i+1)=m by omega]⟩
theorem mem_pick (T:Nat):∀ (n k:Nat) (L:List Nat),L.Sublist (List.range' k (T - k))→L.length=n→L∈pickF T n k
 | 0,k,L,_,hl=>by rw [List.length_eq_zero_iff.1 hl];simp [pickF]
 | n+1,k,[],_,hl=>by simp at hl
 | n+1,k,i :: L,h,hl=>by
  obtain ⟨h1,h2,h3⟩:=sub_range _ _ h
  have hn:L.length=n:=by simpa using hl
  have hle:=h3.length_le
  rw [List.length_range'] at hle
  simp only [pickF,List.mem_flatMap,List.mem_map]
  refine ⟨i,by rw [List.mem_range'_1];omega,L,mem_pick T n (i+1) L (by rwa [show T - (i+1)=k+(T - k) - (i+1) by omega]) hn,rfl⟩
theorem aug_mx {rows:List (List RatD)} {right:List RatD} {i:Nat} (h:i<rows.length):mx (augF rows right) i=mx rows i ++ [qx right i]:=by simp [augF,mx,List.getD,h]
theorem aug_at {rows:List (List RatD)} {right:List RatD} {n i k:Nat} (hl:rows.length=n) (hi:i<n) (hr:(mx rows i).length=n) (hk:k<n+1):qx (mx (augF rows right) i) k=if k<n then qx (mx rows i) k else qx right i:=by
 rw [aug_mx (by omega)]
 simp only [qx,List.getD]
 by_cases c:k<n
 ·rw [if_pos c,List.getElem?_append_left (by omega)]
 ·rw [if_neg c,List.getElem?_append_right (by omega),show k - (mx rows i).length=0 by omega]
  rfl
theorem aug_val {rows:List (List RatD)} {right:List RatD} {n:Nat} (hl:rows.length=n) (hr:∀ i,i<n→(mx rows i).length=n) (hv:∀ i k,i<n→k<n→vR (qx (mx rows i) k)=true) (hb:∀ i,i<n→vR (qx right i)=true):ValM n (n+1) (augF rows right) :=
 ⟨⟨by simp [augF,hl],fun i hi=>by rw [aug_mx (by omega),List.length_append,hr i hi];rfl⟩,fun i k hi hk=>by
  rw [aug_at hl hi (hr i hi) hk]
  split
  ·exact hv i k hi (by assumption)
  ·exact hb i hi⟩
theorem gs_start {rows:List (List RatD)} {right:List RatD} {n:Nat} {x:Nat→Rat} (hl:rows.length=n) (hr:∀ i,i<n→(mx rows i).length=n)
 (h1:∀ d:Nat→Rat,(∀ i,i<n→sig (fun k=>qv (qx (mx rows i) k)*d k) n=0)→∀ j,j<n→d j=0) (h2:∀ i,i<n→sig (fun k=>qv (qx (mx rows i) k)*x k) n=qv (qx right i)):Gs n 0 (vM (augF rows right)) x:=by
 have e:∀ i,i<n→∀ v:Nat→Rat,sig (fun k=>vM (augF rows right) i k*v k) n=sig (fun k=>qv (qx (mx rows i) k)*v k) n:=fun i hi v=>sig_congr fun k hk=>by
  rw [vM,aug_at hl hi (hr i hi) (by omega),if_pos hk]
 refine ⟨fun i k _ hk=>absurd hk (Nat.not_lt_zero _),fun k hk=>absurd hk (Nat.not_lt_zero _),fun d hd=>h1 d fun i hi=>by rw [← e i hi];exact hd i hi,fun i hi=>?_⟩
 rw [e i hi,h2 i hi,vM,aug_at hl hi (hr i hi) (by omega),if_neg (by omega)]
theorem mvTo_run {M:List (List RatD)} {x:List RatD} {s:Nat→RatD} (h:∀ i,i<M.length→dotF (mx M i) x=some (s i)):∀ k,k≤M.length→mvTo M x k=some ((List.range k).map s)
 | 0,_=>rfl
 | k+1,hk=>by
  simp only [mvTo,mvTo_run h k (by omega),h k (by omega),List.range_succ,List.map_append,List.map_cons,List.map_nil]
theorem mvF_run {M:List (List RatD)} {x:List RatD} {s:Nat→RatD} (h:∀ i,i<M.length→dotF (mx M i) x=some (s i)):mvF M x=some ((List.range M.length).map s):=mvTo_run h _ (Nat.le_refl _)
theorem mv_fits {M:List (List RatD)} {x:List RatD} {n:Nat} {D:Int} {X:Nat→Int} (hn:n≤5) (ha:∀ i,i<M.length→(mx M i).length=n) (hx:x.length=n) (hs:∀ i,i<M.length→∀ k,k<n→S3 (qx (mx M i) k)) (hv:∀ k,k<n→vR (qx x k)=true) (hD:D ≠ 0) (hDb:D.natAbs≤34992) (hX:∀ k,k<n→(X k).natAbs≤34992∧qv (qx x k)=(X k:Rat) / (D:Rat)) :
 ∃ s:Nat→RatD,mvF M x=some ((List.range M.length).map s)∧∀ i,i<M.length→vR (s i)=true∧qv (s i)=sig (fun k=>qv (qx (mx M i) k)*qv (qx x k)) n:=by
 obtain ⟨s,hs'⟩:∃ s:Nat→RatD,∀ i,i<M.length→dotF (mx M i) x=some (s i) :=
  Classical.axiomOfChoice (r:=fun i (s:RatD)=>i<M.length→dotF (mx M i) x=some s) fun i=>by
   by_cases hi:i<M.length
   ·obtain ⟨s,e,_⟩:=dot_fits hn (ha i hi) hx (hs i hi) hv hD hDb hX n (Nat.le_refl _)
    exact ⟨s,fun _=>by unfold dotF;rw [ha i hi,hx,if_pos rfl];exact e⟩
   ·exact ⟨⟨0,1⟩,fun g=>absurd g hi⟩
 refine ⟨s,mvF_run hs',fun i hi=>?_⟩
 obtain ⟨_,h2,h3⟩:=dotF_sig (hs' i hi)
 rw [ha i hi] at h3
 exact ⟨h2,h3⟩
theorem qv_nonneg {x:RatD} (hx:vR x=true):0≤qv x↔0≤x.num:=by
 have h:=qv_lt (x:=x) (y:=⟨0,1⟩) (vR_pos hx) (by decide)
 have e:qv ⟨0,1⟩=0:=by simp [qv];grind
 rw [e] at h
 simp only [Int.mul_one,Int.zero_mul] at h
 constructor
 ·intro h1
  exact Int.not_lt.1 fun h2=>by have:=h.2 h2;grind
 ·intro h1
  by_cases c:qv x<0
  ·have:=h.1 c;omega
  ·grind
theorem posL_of {x:List RatD} (h:∀ i,i<x.length→vR (qx x i)=true∧0≤qv (qx x i)):posL x=true :=
 List.all_eq_true.2 fun i hi=>decide_eq_true (by
  obtain ⟨h1,h2⟩:=h i (List.mem_range.1 hi)
  exact (qv_nonneg h1).1 h2)
theorem cmpQ_ge {x y:RatD} (hx:vR x=true) (hy:vR y=true):¬ 1*cmpQ x y<0↔qv y≤qv x:=by
 rw [Int.one_mul,cmpQ_lt hx hy,← qv_lt (vR_pos hx) (vR_pos hy)];grind
theorem cmpQ_le {x y:RatD} (hx:vR x=true) (hy:vR y=true):¬ (-1)*cmpQ x y<0↔qv x≤qv y:=by
 rw [cmpQ_neg hx hy,← qv_lt (vR_pos hy) (vR_pos hx)];grind
theorem sideL_ge {l B:List RatD} (h:∀ i,i<l.length→vR (qx l i)=true∧vR (qx B i)=true):sideL l B 1=true↔∀ i,i<l.length→qv (qx B i)≤qv (qx l i):=by
 unfold sideL
 rw [List.all_eq_true]
 constructor
 ·intro g i hi
  have:=of_decide_eq_true (g i (List.mem_range.2 hi))
  exact (cmpQ_ge (h i hi).1 (h i hi).2).1 (by omega)
 ·intro g i hi
  have hi':=List.mem_range.1 hi
  have:=(cmpQ_ge (h i hi').1 (h i hi').2).2 (g i hi')
  exact decide_eq_true (by omega)
theorem sideL_le {l B:List RatD} (h:∀ i,i<l.length→vR (qx l i)=true∧vR (qx B i)=true):sideL l B (-1)=true↔∀ i,i<l.length→qv (qx l i)≤qv (qx B i):=by
 unfold sideL
 rw [List.all_eq_true]
 constructor
 ·intro g i hi
  have:=of_decide_eq_true (g i (List.mem_range.2 hi))
  exact (cmpQ_le (h i hi).1 (h i hi).2).1 (by omega)
 ·intro g i hi
  have hi':=List.mem_range.1 hi
  have:=(cmpQ_le (h i hi').1 (h i hi').2).2 (g i hi')
  exact decide_eq_true (by omega)
section
variable {A:List (List RatD)} {B Cc:List RatD} {rows:List (List RatD)} {right:List RatD} {sg:Int}
theorem leafF_mono {ch:List Nat} {outs:List (List RatD)} {y:List RatD} (h:y∈outs):y∈leafF A B Cc rows right sg ch outs:=by
 unfold leafF
 split
 ·exact h
 ·split
  ·split
   ·exact h
   ·exact List.mem_append_left _ h
  ·exact h
theorem eqQ_out {a b:List RatD} (h:eqQ a b=true):a.length=b.length∧∀ i,i<a.length→qx a i=qx b i:=by
 simp only [eqQ,Bool.and_eq_true,decide_eq_true_eq,List.all_eq_true,List.mem_range,sameQ] at h
 refine ⟨h.1,fun i hi=>?_⟩
 obtain ⟨h1,h2⟩:=h.2 i hi
 cases ea:qx a i;cases eb:qx b i
 rw [ea,eb] at h1 h2
 simp only at h1 h2
 rw [h1,h2]
theorem leafF_new {ch:List Nat} {x:List RatD} (hs:solF (ch.map (mx rows ·)) (ch.map (qx right ·))=some x) (hf:feasF A B Cc x sg=true) (outs:List (List RatD)):∃ y∈leafF A B Cc rows right sg ch outs,y.length=x.length∧∀ i,i<x.length→qx y i=qx x i:=by
 unfold leafF
 rw [hs]
 simp only [hf,if_true]
 split
 ·rename_i h
  obtain ⟨y,hy,he⟩:=List.any_eq_true.1 h
  obtain ⟨h1,h2⟩:=eqQ_out he
  exact ⟨y,hy,h1.symm,fun i hi=>(h2 i hi).symm⟩
 ·exact ⟨x,by simp,rfl,fun _ _=>rfl⟩
theorem foldl_leaf_mono {y:List RatD}:∀ (L:List (List Nat)) (outs:List (List RatD)),y∈outs→y∈L.foldl (fun o c=>leafF A B Cc rows right sg c o) outs
 | [],_,h=>h
 | _ :: L,_,h=>foldl_leaf_mono L _ (leafF_mono h)
theorem foldl_leaf {ch:List Nat} {x:List RatD} (hs:solF (ch.map (mx rows ·)) (ch.map (qx right ·))=some x) (hf:feasF A B Cc x sg=true):∀ (L:List (List Nat)) (outs:List (List RatD)),ch∈L→∃ y∈L.foldl (fun o c=>leafF A B Cc rows right sg c o) outs,y.length=x.length∧∀ i,i<x.length→qx y i=qx x i
 | [],_,h=>(by cases h)
 | c :: L,outs,h=>by
  rcases List.mem_cons.1 h with rfl | h
  ·obtain ⟨y,hy,h1⟩:=leafF_new hs hf outs
   exact ⟨y,foldl_leaf_mono L _ hy,h1⟩
  ·exact foldl_leaf hs hf L _ h
end
theorem mx_map {rows:List (List RatD)} {L:List Nat} {i:Nat} (h:i<L.length):mx (L.map (mx rows ·)) i=mx rows (L.getD i 0):=by simp [mx,List.getD,h]
theorem qx_map {right:List RatD} {L:List Nat} {i:Nat} (h:i<L.length):qx (L.map (qx right ·)) i=qx right (L.getD i 0):=by simp [qx,List.getD,h]
theorem vertex_found {T n:Nat} {rows:List (List RatD)} {right:List RatD} (h1:1≤n) (hn:n≤3) (hS:∀ i,i<T→(mx rows i).length=n∧(∀ k,k<n→S3 (qx (mx rows i) k))∧S3 (qx right i)) {L:List Nat} (hL:L.Sublist (List.range T)) (hl:L.length=n) {x:Nat→Rat}
 (ht:∀ i∈L,sig (fun k=>qv (qx (mx rows i) k)*x k) n=qv (qx right i)) (hnull:∀ d:Nat→Rat,(∀ i∈L,sig (fun k=>qv (qx (mx rows i) k)*d k) n=0)→∀ j,j<n→d j=0) :
 (∃ l,solF (L.map (mx rows ·)) (L.map (qx right ·))=some l∧l.length=n∧∀ i,i<n→vR (qx l i)=true∧qv (qx l i)=x i)∧∃ (D:Int) (X:Nat→Int),D ≠ 0∧D.natAbs≤34992∧∀ j,j<n→(X j).natAbs≤34992∧x j=(X j:Rat) / (D:Rat):=by
 have hmem:∀ i,i<n→L.getD i 0∈L:=fun i hi=>by
  have:i<L.length:=by omega
  simp [List.getD,this]
 have hT:∀ i,i<n→L.getD i 0<T:=fun i hi=>List.mem_range.1 (hL.subset (hmem i hi))
 have er:∀ i,i<n→mx (L.map (mx rows ·)) i=mx rows (L.getD i 0):=fun i hi=>mx_map (by omega)
 have eb:∀ i,i<n→qx (L.map (qx right ·)) i=qx right (L.getD i 0):=fun i hi=>qx_map (by omega)
 have hll:(L.map (mx rows ·)).length=n:=by simp [hl]
 have hlen:∀ i,i<n→(mx (L.map (mx rows ·)) i).length=n:=fun i hi=>by rw [er i hi];exact (hS _ (hT i hi)).1
 have hV:=aug_val (right:=L.map (qx right ·)) hll hlen (fun i k hi hk=>by rw [er i hi];exact ((hS _ (hT i hi)).2.1 k hk).1) (fun i hi=>by rw [eb i hi];exact (hS _ (hT i hi)).2.2.1)
 refine lp_sol h1 hn (by simp [hl]) hV (fun i hi=>?_) (gs_start hll hlen (fun d hd=>hnull d fun i hi=>?_) (fun i hi=>?_))
 ·refine s3_row fun k hk=>?_
  rw [aug_at hll hi (hlen i hi) hk]
  split
  ·rename_i hk2;rw [er i hi];exact (hS _ (hT i hi)).2.1 k hk2
  ·rw [eb i hi];exact (hS _ (hT i hi)).2.2
 ·obtain ⟨k,hk,e⟩:=List.getElem_of_mem hi
  have e':L.getD k 0=i:=by simp [List.getD,hk,e]
  have:=hd k (by omega)
  rw [er k (by omega),e'] at this
  exact this
 ·rw [er i hi,eb i hi];exact ht _ (hmem i hi)
theorem rows_lo {A:List (List RatD)} {n i:Nat} (h:i<A.length):mx (rowsF A n) i=mx A i:=by simp [rowsF,mx,List.getD,List.getElem?_append_left h]
theorem rows_hi {A:List (List RatD)} {n j:Nat} (h:j<n):mx (rowsF A n) (A.length+j)=unitR n j:=by
 simp [rowsF,mx,List.getD,h]
theorem right_lo {B:List RatD} {n i:Nat} (h:i<B.length):qx (rightF B n) i=qx B i:=by simp [rightF,qx,List.getD,List.getElem?_append_left h]
theorem right_hi {B:List RatD} {n j:Nat} (h:j<n):qx (rightF B n) (B.length+j)=⟨0,1⟩:=by
 simp [rightF,qx,List.getD,h]
theorem unit_at {n i k:Nat} (h:k<n):qx (unitR n i) k=⟨if i=k then 1 else 0,1⟩:=by simp [unitR,qx,List.getD,h]
theorem qv01:qv ⟨0,1⟩=0∧qv ⟨1,1⟩=1:=by
 constructor
 ·simp [qv];grind
 ·simp [qv];grind
theorem rows_s3 {A:List (List RatD)} {B:List RatD} {n:Nat} (hl:A.length=B.length) (hA:∀ i,i<A.length→(mx A i).length=n∧∀ k,k<n→S3 (qx (mx A i) k)) (hB:∀ i,i<B.length→S3 (qx B i)):∀ i,i<B.length+n →
 ((mx (rowsF A n) i).length=n∧(∀ k,k<n→S3 (qx (mx (rowsF A n) i) k))∧S3 (qx (rightF B n) i))∧(∀ k,k<n→qv (qx (mx (rowsF A n) i) k)=gR B.length (fun i k=>qv (qx (mx A i) k)) i k)∧qv (qx (rightF B n) i)=hR B.length (fun i=>qv (qx B i)) i:=by
 intro i hi
 by_cases c:i<B.length
 ·rw [rows_lo (by omega),right_lo c]
  refine ⟨⟨(hA i (by omega)).1,(hA i (by omega)).2,hB i c⟩,fun k hk=>?_,?_⟩
  ·simp only [gR,c,if_true]
  ·simp only [hR,c,if_true]
 ·obtain ⟨j,rfl⟩:∃ j,i=B.length+j:=⟨i - B.length,by omega⟩
  have hj:j<n:=by omega
  have e1:mx (rowsF A n) (B.length+j)=unitR n j:=by rw [← hl];exact rows_hi hj
  rw [e1,right_hi hj]
  refine ⟨⟨by simp [unitR],fun k hk=>?_,by refine ⟨by decide,⟨by decide,by decide⟩,by decide⟩⟩,fun k hk=>?_,?_⟩
  ·rw [unit_at hk]
   by_cases e:j=k
   ·rw [if_pos e];exact ⟨by decide,⟨by decide,by decide⟩,by decide⟩
   ·rw [if_neg e];exact ⟨by decide,⟨by decide,by decide⟩,by decide⟩
  ·rw [unit_at hk]
   simp only [gR,c,if_false,show B.length+j - B.length=j by omega]
   by_cases e:j=k
   ·subst e;simp only [if_true];exact qv01.2
   ·rw [if_neg e,if_neg (fun h=>e h.symm)];exact qv01.1
  ·simp only [hR,c,if_false];exact qv01.1
end Go.Proofs.Ytalkhmgfnmaaaaa
namespace Go.Proofs.Ytalkhmgfnmaaaaa
set_option linter.unusedSimpArgs false
set_option linter.unusedVariables false
attribute [local go_sem ↓] reduceIte
attribute [local go_sem] Nat.reduceEqDiff Nat.reduceLT Nat.reduceAdd Nat.reduceLeDiff Nat.reduceMul Nat.reduceBEq Nat.reduceSub reduceCtorEq Int.reduceLE Int.reduceNeg Int.reduceLT
open Go.RowKit
theorem take_mapI {α β:Type} (f:α→β) (l:List α) (d:α) {i:Nat} (h:i<l.length):(l.take (i+1)).map f=(l.take i).map f ++ [f (l.getD i d)]:=by
 rw [List.take_add_one,List.getElem?_eq_getElem h,List.map_append]
 simp [List.getD,h]
def trQ (A:List (List RatD)) (n:Nat):List (List RatD):=(List.range n).map fun k=>A.map fun r=>qx r k
theorem trQ_succ (A:List (List RatD)) (n:Nat):trQ A (n+1)=trQ A n ++ [A.map fun r=>qx r n]:=by unfold trQ;rw [List.range_succ,List.map_append];rfl
theorem implCopyD (l:List RatD) (hl:l.length≤1048576):AFn 25 [.d (ratsD l)] [] (fun r os=>r=.d (ratsD l)∧os=[]) :=
 afn_weak (implCopyQ l hl) (fun r os ⟨h1,h2⟩=>⟨_,by rw [h1];exact .buf _ _ _ _,rfl,h2⟩)
section
variable (A:List (List RatD)) (m n:Nat) (hOK:matOK A m n=true) (hm:1≤m∧m≤1000) (hn:n≤1000)
include hOK hm hn
set_option maxHeartbeats 4000000 in
theorem implTransA:AFn 24 [.d (matD A)] [] (fun r os=>r=.tup [.d (matD (trQ A n)),.d (.bool true)]∧os=[]):=by
 obtain ⟨hl,hrow⟩:=matOK_out hOK
 have hA0:0<A.length:=by omega
 have h0l:=(hrow 0 hA0).1
 have r0:(A.map ratsD).getD 0 (.bool false)=ratsD (mx A 0):=getDm hA0
 have hAm:(A.map ratsD).length=A.length:=List.length_map ..
 have hRm:((mx A 0).map ratDV).length=n:=by rw [List.length_map];exact h0l
 have z0:decide (((A.length:Nat):Int)=0)=false:=decide_eq_false (by omega)
 generalize mx A 0=A0 at *
 refine afn_of (rv:=[.tmp 2,.tmp 3]) tyT_ok Try.func24 rfl (by decide +kernel) Try.ntmps24 rfl (by simp) ?_
 repeat' (first | refine sq ?_ | refine stp ?_ | refine blk_o (by decide) ?_ | (apply cb;(focus (simp (disch:=(first | omega | (simp;omega))) only [go_sem,w64,matD,z0];try exact rfl));refine cok ?_) | (refine rgT ?_;intro K hK) | (refine dA ?_;intro K hK) | (with_reducible refine hK _ ?_;clear hK K) | (refine stq ?_;simp (disch:=(first | omega | (simp;omega))) only [go_sem,w64,matD,z0]) | refine as1 ?_ | fail)
 refine awp_loopw (fun mm s=>∃ i:Nat,mm=A.length - i∧i≤A.length∧s=mkS [(0,.d (matD A)),(13,.d (matD A)),(14,.d (.int (A.length:Nat))),(15,.d (.int (i:Nat)))] []) ?_ ?_
 ·refine ⟨_,_,?_,0,rfl,Nat.zero_le _,rfl⟩
  (refine sle_mk ?_ ?_ <;> simp (disch:=(first | omega | (simp;omega))) only [go_sem,w64,matD] <;> exact leafs)
 ·rintro mm s ⟨i,rfl,hi,rfl⟩
  have w4:IntKind.i64.wrap ((i:Int)+1)=((i+1:Nat):Int):=by rw [w64 (by omega)];rfl
  repeat' (first | refine sq ?_ | refine stp ?_ | refine blk_o (by decide) ?_ | (apply cb;(focus (simp (disch:=(first | omega | (simp;omega))) only [go_sem,w64];try exact rfl));refine cok ?_) | (refine rgT ?_;intro K hK) | (refine dA ?_;intro K hK) | (with_reducible refine hK _ ?_;clear hK K) | (refine stq ?_;simp (disch:=(first | omega | (simp;omega))) only [go_sem,w64]) | refine as1 ?_ | fail)
  refine awp_if (p:=(i:Int)<(A.length:Nat)) (by simp (disch:=(first | omega | (simp;omega))) only [go_sem,w64]) ?_ ?_ <;> intro hc
  ·have hi2:i<A.length:=by omega
   have g0:(A.map ratsD).getD i (.bool false)=ratsD (mx A i):=getDm hi2
   obtain ⟨hxl,hxv⟩:=hrow i hi2
   have hav:=allValidA (mx A i) (by omega)
   rw [hxv] at hav
   generalize mx A i=x at *
   have hxm:(x.map ratDV).length=n:=by rw [List.length_map];exact hxl
   repeat' (first | refine sq ?_ | refine stp ?_ | refine blk_o (by decide) ?_ | (apply cb;(focus (simp (disch:=(first | omega | (simp;omega))) only [go_sem,w64,matD,hAm,g0,r0,Int.toNat_zero,ratsD,hxm,hRm];try exact rfl));refine cok ?_) | (refine rgT ?_;intro K hK) | (refine dA ?_;intro K hK) | (with_reducible refine hK _ ?_;clear hK K) | (refine stq ?_;simp (disch:=(first | omega | (simp;omega))) only [go_sem,w64,matD,hAm,g0,r0,Int.toNat_zero,ratsD,hxm,hRm]) | refine as1 ?_ | fail)
   (first | refine callA (hav) ?_ | refine callD (hav) ?_ | refine callE (hav) ?_ | refine callF (hav) ?_ ?_)
   repeat' (first | refine sq ?_ | refine stp ?_ | refine blk_o (by decide) ?_ | (apply cb;(focus (simp (disch:=(first | omega | (simp;omega))) only [go_sem,w64,w4];try exact rfl));refine cok ?_) | (refine rgT ?_;intro K hK) | (refine dA ?_;intro K hK) | (with_reducible refine hK _ ?_;clear hK K) | (refine stq ?_;simp (disch:=(first | omega | (simp;omega))) only [go_sem,w64,w4]) | refine as1 ?_ | fail)
   refine ⟨A.length - (i+1),_,by omega,?_,i+1,rfl,by omega,rfl⟩
   (refine sle_mk ?_ ?_ <;> simp (disch:=(first | omega | (simp;omega))) only [go_sem,w64,matD] <;> exact leafs)
  ·repeat' (first | refine sq ?_ | refine stp ?_ | refine blk_o (by decide) ?_ | (apply cb;(focus (simp (disch:=(first | omega | (simp;omega))) only [go_sem,w64,matD,r0,Int.toNat_zero,ratsD,hRm,hAm];try exact rfl));refine cok ?_) | (refine rgT ?_;intro K hK) | (refine dA ?_;intro K hK) | (with_reducible refine hK _ ?_;clear hK K) | (refine stq ?_;simp (disch:=(first | omega | (simp;omega))) only [go_sem,w64,matD,r0,Int.toNat_zero,ratsD,hRm,hAm]) | refine as1 ?_ | fail)
   refine awp_nilbuf 6 6 25 1 (by simp (disch:=(first | omega | (simp;omega))) only [go_sem,w64]) ?_
   refine awp_loopw (fun mm s=>∃ k:Nat,mm=n - k∧k≤n∧s=mkS [(0,.d (matD A)),(6,.buf 6 25 1 ((trQ A k).map ratsD)),(35,.d (.int (n:Nat))),(36,.d (.int (k:Nat)))] []) ?_ ?_
   ·refine ⟨_,_,?_,0,rfl,Nat.zero_le _,rfl⟩
    have e:trQ A 0=[]:=rfl
    (refine sle_mk ?_ ?_ <;> simp (disch:=(first | omega | (simp;omega))) only [go_sem,w64,matD,e,List.map_nil] <;> exact leafs)
   ·rintro mm s ⟨k,rfl,hk,rfl⟩
    have w5:IntKind.i64.wrap ((k:Int)+1)=((k+1:Nat):Int):=by rw [w64 (by omega)];rfl
    repeat' (first | refine sq ?_ | refine stp ?_ | refine blk_o (by decide) ?_ | (apply cb;(focus (simp (disch:=(first | omega | (simp;omega))) only [go_sem,w64];try exact rfl));refine cok ?_) | (refine rgT ?_;intro K hK) | (refine dA ?_;intro K hK) | (with_reducible refine hK _ ?_;clear hK K) | (refine stq ?_;simp (disch:=(first | omega | (simp;omega))) only [go_sem,w64]) | refine as1 ?_ | fail)
    refine awp_if (p:=(k:Int)<(n:Nat)) (by simp (disch:=(first | omega | (simp;omega))) only [go_sem,w64]) ?_ ?_ <;> intro hc2
    ·repeat' (first | refine sq ?_ | refine stp ?_ | refine blk_o (by decide) ?_ | (apply cb;(focus (simp (disch:=(first | omega | (simp;omega))) only [go_sem,w64,matD,hAm];try exact rfl));refine cok ?_) | (refine rgT ?_;intro K hK) | (refine dA ?_;intro K hK) | (with_reducible refine hK _ ?_;clear hK K) | (refine stq ?_;simp (disch:=(first | omega | (simp;omega))) only [go_sem,w64,matD,hAm]) | refine as1 ?_ | fail)
     refine awp_nilbuf 8 8 32 2 (by simp (disch:=(first | omega | (simp;omega))) only [go_sem,w64]) ?_
     refine awp_loopw (fun mm s=>∃ i:Nat,mm=A.length - i∧i≤A.length∧s=mkS [(0,.d (matD A)),(6,.buf 6 25 1 ((trQ A k).map ratsD)),(35,.d (.int (n:Nat))),(36,.d (.int (k:Nat))),(7,.d (.int (k:Nat))),(8,.buf 8 32 2 (((A.take i).map fun r=>qx r k).map ratDV)),(40,.d (.int (A.length:Nat))),(41,.d (.int (i:Nat)))] []) ?_ ?_
     ·refine ⟨_,_,?_,0,rfl,Nat.zero_le _,rfl⟩
      (refine sle_mk ?_ ?_ <;> simp (disch:=(first | omega | (simp;omega))) only [go_sem,w64,matD,List.take_zero,List.map_nil] <;> exact leafs)
     ·rintro mm s ⟨i,rfl,hi,rfl⟩
      have w6:IntKind.i64.wrap ((i:Int)+1)=((i+1:Nat):Int):=by rw [w64 (by omega)];rfl
      repeat' (first | refine sq ?_ | refine stp ?_ | refine blk_o (by decide) ?_ | (apply cb;(focus (simp (disch:=(first | omega | (simp;omega))) only [go_sem,w64];try exact rfl));refine cok ?_) | (refine rgT ?_;intro K hK) | (refine dA ?_;intro K hK) | (with_reducible refine hK _ ?_;clear hK K) | (refine stq ?_;simp (disch:=(first | omega | (simp;omega))) only [go_sem,w64]) | refine as1 ?_ | fail)
      refine awp_if (p:=(i:Int)<(A.length:Nat)) (by simp (disch:=(first | omega | (simp;omega))) only [go_sem,w64]) ?_ ?_ <;> intro hc3
      ·have hi2:i<A.length:=by omega
       have g0:(A.map ratsD).getD i (.bool false)=ratsD (mx A i):=getDm hi2
       obtain ⟨hxl,hxv⟩:=hrow i hi2
       have ht:=take_mapI (fun r=>qx r k) A [] hi2
       have hb:(((A.take i).map fun r=>qx r k).map ratDV).length=i:=by rw [List.length_map,List.length_map,List.length_take];omega
       have ex:A.getD i []=mx A i:=rfl
       rw [ex] at ht
       generalize mx A i=x at *
       have g1:(x.map ratDV).getD k (.bool false)=ratDV (qx x k):=getDq (by omega)
       have hxm:(x.map ratDV).length=n:=by rw [List.length_map];exact hxl
       repeat' (first | refine sq ?_ | refine stp ?_ | refine blk_o (by decide) ?_ | (apply cb;(focus (simp (disch:=(first | omega | (simp;omega))) only [go_sem,w64,matD,hAm,g0,ratsD,g1,hxm,w6,hb,ratDV];try exact rfl));refine cok ?_) | (refine rgT ?_;intro K hK) | (refine dA ?_;intro K hK) | (with_reducible refine hK _ ?_;clear hK K) | (refine stq ?_;simp (disch:=(first | omega | (simp;omega))) only [go_sem,w64,matD,hAm,g0,ratsD,g1,hxm,w6,hb,ratDV]) | refine as1 ?_ | fail)
       refine ⟨A.length - (i+1),_,by omega,?_,i+1,rfl,by omega,rfl⟩
       rw [ht,List.map_append]
       (refine sle_mk ?_ ?_ <;> simp (disch:=(first | omega | (simp;omega))) only [go_sem,w64,matD,List.map_cons,List.map_nil,ratDV] <;> exact leafs)
      ·obtain rfl:i=A.length:=by omega
       have hb1:((trQ A k).map ratsD).length=k:=by simp [trQ]
       rw [List.take_length]
       have hb2:((A.map fun r=>qx r k).map ratDV).length=A.length:=by simp
       repeat' (first | refine sq ?_ | refine stp ?_ | refine blk_o (by decide) ?_ | (apply cb;(focus (simp (disch:=(first | omega | (simp;omega))) only [go_sem,w64,w5,hb1,hb2];try exact rfl));refine cok ?_) | (refine rgT ?_;intro K hK) | (refine dA ?_;intro K hK) | (with_reducible refine hK _ ?_;clear hK K) | (refine stq ?_;simp (disch:=(first | omega | (simp;omega))) only [go_sem,w64,w5,hb1,hb2]) | refine as1 ?_ | fail)
       refine ⟨n - (k+1),_,by omega,?_,k+1,rfl,by omega,rfl⟩
       rw [trQ_succ,List.map_append]
       (refine sle_mk ?_ ?_ <;> simp (disch:=(first | omega | (simp;omega))) only [go_sem,w64,matD,List.map_cons,List.map_nil,ratsD] <;> exact leafs)
    ·obtain rfl:k=n:=by omega
     repeat' (first | refine sq ?_ | refine stp ?_ | refine blk_o (by decide) ?_ | (apply cb;(focus (simp (disch:=(first | omega | (simp;omega))) only [go_sem,w64];try exact rfl));refine cok ?_) | (refine rgT ?_;intro K hK) | (refine dA ?_;intro K hK) | (with_reducible refine hK _ ?_;clear hK K) | (refine stq ?_;simp (disch:=(first | omega | (simp;omega))) only [go_sem,w64]) | refine as1 ?_ | fail)
     (refine endA (r:=.tup [.d (matD (trQ A k)),.d (.bool true)]) ?_)
     exact ⟨rfl,rfl⟩
end
structure LpS where
 A:List (List RatD)
 B:List RatD
 C:List RatD
 ok:Bool
def ansP (p:LpS):AV:=.tup [.d (lpD p.A p.B p.C),.d (.bool p.ok)]
theorem noLp:ALe (.tup [.d (.agg [.sl 1 [],.sl 1 [],.sl 1 []]),.d (.bool false)]) (.tup [.d (.agg [.sl 1 [],.sl 2 [],.sl 2 []]),.d (.bool false)]):=.tup (.cons (ALe.dd (dle_agg (.cons (dle_refl _) (.cons (dle_nil 1 2) (.cons (dle_nil 1 2) .nil))))) (.cons (.refl _) .nil))
def dlF (A:List (List RatD)) (B C:List RatD):LpS:=if lpV A B C=true then ⟨trQ A C.length,C,B,true⟩ else ⟨[],[],[],false⟩
section
variable (A:List (List RatD)) (B C:List RatD) (hA:A.length≤1048576) (hr:∀ i,i<A.length→(mx A i).length≤1048576) (hB:B.length≤1048576) (hC:C.length≤1048576)
include hA hr hB hC
set_option maxHeartbeats 4000000 in
theorem implDualA:AFn 7 [.d (lpD A B C)] [] (fun r os=>r=ansP (dlF A B C)∧os=[]):=by
 refine afn_of (rv:=[.cell 2 27,.tmp 3]) tyT_ok Try.func7 rfl (by decide +kernel) Try.ntmps7 rfl (by simp) ?_
 repeat' (first | refine sq ?_ | refine stp ?_ | refine blk_o (by decide) ?_ | (apply cb;(focus (simp (disch:=(first | omega | (simp;omega))) only [go_sem,w64,lpD];try exact rfl));refine cok ?_) | (refine rgT ?_;intro K hK) | (refine dA ?_;intro K hK) | (with_reducible refine hK _ ?_;clear hK K) | (refine stq ?_;simp (disch:=(first | omega | (simp;omega))) only [go_sem,w64,lpD]) | refine as1 ?_ | fail)
 (first | refine callA (implLpA A B C hA hr hB hC) ?_ | refine callD (implLpA A B C hA hr hB hC) ?_ | refine callE (implLpA A B C hA hr hB hC) ?_ | refine callF (implLpA A B C hA hr hB hC) ?_ ?_)
 cases h:lpV A B C with
 | false =>
  repeat' (first | refine sq ?_ | refine stp ?_ | refine blk_o (by decide) ?_ | (apply cb;(focus (simp (disch:=(first | omega | (simp;omega))) only [go_sem,w64,h];try exact rfl));refine cok ?_) | (refine rgT ?_;intro K hK) | (refine dA ?_;intro K hK) | (with_reducible refine hK _ ?_;clear hK K) | (refine stq ?_;simp (disch:=(first | omega | (simp;omega))) only [go_sem,w64,h]) | refine as1 ?_ | fail)
  refine endA (r:=.tup [.d (.agg [.sl 1 [],.sl 2 [],.sl 2 []]),.d (.bool false)]) (h:=(by simp (disch:=(first | omega | (simp;omega))) only [go_sem,w64];exact noLp)) ?_
  exact ⟨by unfold dlF;rw [if_neg (by rw [h];simp)];rfl,rfl⟩
 | true =>
  obtain ⟨⟨c1,c2⟩,⟨b1,b2⟩,hmo,_,_⟩:=lpV_out h
  have ht:=implTransA A B.length C.length hmo (by omega) (by omega)
  have hBm:(B.map ratDV).length=B.length:=List.length_map ..
  have hCm:(C.map ratDV).length=C.length:=List.length_map ..
  have hc1:=implCopyD C hC
  have hc2:=implCopyD B hB
  repeat' (first | refine sq ?_ | refine stp ?_ | refine blk_o (by decide) ?_ | (apply cb;(focus (simp (disch:=(first | omega | (simp;omega))) only [go_sem,w64,h,lpD,matD];try exact rfl));refine cok ?_) | (refine rgT ?_;intro K hK) | (refine dA ?_;intro K hK) | (with_reducible refine hK _ ?_;clear hK K) | (refine stq ?_;simp (disch:=(first | omega | (simp;omega))) only [go_sem,w64,h,lpD,matD]) | refine as1 ?_ | fail)
  (first | refine callA (ht) ?_ | refine callD (ht) ?_ | refine callE (ht) ?_ | refine callF (ht) ?_ ?_)
  repeat' (first | refine sq ?_ | refine stp ?_ | refine blk_o (by decide) ?_ | (apply cb;(focus (simp (disch:=(first | omega | (simp;omega))) only [go_sem,w64,matD,ratsD];try exact rfl));refine cok ?_) | (refine rgT ?_;intro K hK) | (refine dA ?_;intro K hK) | (with_reducible refine hK _ ?_;clear hK K) | (refine stq ?_;simp (disch:=(first | omega | (simp;omega))) only [go_sem,w64,matD,ratsD]) | refine as1 ?_ | fail)
  (first | refine callA (hc1) ?_ | refine callD (hc1) ?_ | refine callE (hc1) ?_ | refine callF (hc1) ?_ ?_)
  repeat' (first | refine sq ?_ | refine stp ?_ | refine blk_o (by decide) ?_ | (apply cb;(focus (simp (disch:=(first | omega | (simp;omega))) only [go_sem,w64,ratsD];try exact rfl));refine cok ?_) | (refine rgT ?_;intro K hK) | (refine dA ?_;intro K hK) | (with_reducible refine hK _ ?_;clear hK K) | (refine stq ?_;simp (disch:=(first | omega | (simp;omega))) only [go_sem,w64,ratsD]) | refine as1 ?_ | fail)
  (first | refine callA (hc2) ?_ | refine callD (hc2) ?_ | refine callE (hc2) ?_ | refine callF (hc2) ?_ ?_)
  repeat' (first | refine sq ?_ | refine stp ?_ | refine blk_o (by decide) ?_ | (apply cb;(focus (simp (disch:=(first | omega | (simp;omega))) only [go_sem,w64,ratsD];try exact rfl));refine cok ?_) | (refine rgT ?_;intro K hK) | (refine dA ?_;intro K hK) | (with_reducible refine hK _ ?_;clear hK K) | (refine stq ?_;simp (disch:=(first | omega | (simp;omega))) only [go_sem,w64,ratsD]) | refine as1 ?_ | fail)
  (refine endA (r:=.tup [.d (.agg [matD (trQ A C.length),ratsD C,ratsD B]),.d (.bool true)]) ?_)
  exact ⟨by unfold dlF;rw [if_pos h];rfl,rfl⟩
end
end Go.Proofs.Ytalkhmgfnmaaaaa
namespace Go.Proofs.Ytalkhmgfnmaaaaa
set_option linter.unusedSimpArgs false
set_option linter.unusedVariables false
attribute [local go_sem ↓] reduceIte
attribute [local go_sem] Nat.reduceEqDiff Nat.reduceLT Nat.reduceAdd Nat.reduceLeDiff Nat.reduceMul Nat.reduceBEq Nat.reduceSub reduceCtorEq Int.reduceLE Int.reduceNeg Int.reduceLT
open Go.RowKit
def isByt (y:DV):Prop:=∃ l:List Int,y=.sl 1 (l.map .byte)
def isNatD (y:DV):Prop:=∃ n:Int,0≤n∧y=.int n
def isIntP (y:DV):Prop:=∃ n:Int,y=.int n
def curL:List AV:=[.any isByt,.any isNatD,.any isIntP]
@[go_sem] theorem cur_scr (fb fo:Nat→Bool):scrubs fb fo curL=curL:=rfl
@[go_sem] theorem cur_scr' (fb fo:Nat→Bool):List.map (scrub fb fo) curL=curL:=rfl
@[go_sem] theorem cur_ren (ns:List Nat) (d:Nat):renAs ns d curL=curL:=rfl
@[go_sem] theorem cur_ent:entAs curL=curL:=rfl
@[go_sem] theorem cur_out (nl:List Nat) (g:Nat):outAs nl g curL=curL:=rfl
@[go_sem] theorem cur_frz (o k:Nat) (es:List DV):frzs o k es curL=curL:=rfl
def curC (l:List Int) (i h:Int):List AV:=[.d (.sl 1 (l.map .byte)),.d (.int i),.d (.int h)]
theorem cur_le {l:List Int} {i h:Int} (hi:0≤i):ALes (curC l i h) curL :=
 .cons (.any ⟨l,rfl⟩ (fun m e=>(by cases e))) (.cons (.any ⟨i,hi,rfl⟩ (fun m e=>(by cases e))) (.cons (.any ⟨h,rfl⟩ (fun m e=>(by cases e))) .nil))
theorem afn_cur {f:FuncId} {args:List AV} {R:AV→List (List AV)→Prop} (h:∀ (l:List Int) (i h:Int),0≤i→l.length≤9223372036854775807→AFn f args [curC l i h] R):AFn f args [curL] R:=by
 refine ⟨(h [] 0 0 (by omega) (by simp)).1,fun w G vs h1 h2 h3 h4=>?_⟩
 obtain ⟨g1,g2,us,g3,g4,g5⟩:=h3 0 curL rfl
 obtain ⟨u0,us,rfl,⟨x0,⟨l,rfl⟩,_,c0⟩,u1,us,rfl,⟨x1,⟨i,hi,rfl⟩,_,c1⟩,u2,us,rfl,⟨x2,⟨z,rfl⟩,_,c2⟩,rfl⟩:=g3
 have hl:l.length≤9223372036854775807:=by
  obtain ⟨a,n,c,vs,e1,e2,e3,e4⟩:=c0
  have:=e4.small
  simp only [List.length_map] at e2
  omega
 refine (h l i z hi hl).2 w G vs h1 h2 (fun j l' hj=>?_) h4
 cases j with
 | succ j=>simp at hj
 | zero =>
  simp only [List.getElem?_cons_zero,Option.some.injEq] at hj
  subst hj
  exact ⟨g1,g2,_,⟨u0,_,rfl,⟨_,c0,.inr ⟨fun m e=>(by cases e),rfl⟩⟩,u1,_,rfl,⟨_,c1,.inr ⟨fun m e=>(by cases e),rfl⟩⟩,u2,_,rfl,⟨_,c2,.inr ⟨fun m e=>(by cases e),rfl⟩⟩,rfl⟩,g4,g5⟩
theorem obOK_le {G:Gh} {w:World} {o:Nat} {l m:List AV} (h:ALes l m) (ho:ObOK G w o l):ObOK G w o m:=by
 obtain ⟨g1,g2,us,g3,g4,g5⟩:=ho
 exact ⟨g1,g2,us,h.cv g3,g4,g5⟩
theorem afn_weak1 {f:FuncId} {args:List AV} {os:List (List AV)} {R R':AV→List (List AV)→Prop} (h:AFn f args os R) (hR:∀ r os',R r os'→∃ r' l l',os'=[l]∧ALe r r'∧ALes l l'∧R' r' [l']):AFn f args os R':=by
 refine ⟨h.1,fun w G vs h1 h2 h3 h4=>(h.2 w G vs h1 h2 h3 h4).mono ?_⟩
 rintro e w' ⟨v,r,os',G',rfl,hp⟩
 obtain ⟨r',l,l',rfl,h5,h6,h7⟩:=hR r os' hp.post
 refine ⟨_,r',[l'],G',rfl,h7,h5.cv hp.res,hp.fr,hp.st,hp.le,fun i m hm=>?_,hp.adl,hp.adn,hp.d2,hp.cs,hp.lc,hp.bf,hp.d1,hp.d3,hp.uf⟩
 cases i with
 | succ i=>simp at hm
 | zero =>
  simp only [List.getElem?_cons_zero,Option.some.injEq] at hm
  subst hm
  exact obOK_le h6 (hp.ob 0 l rfl)
theorem end1 {ty:TypeId→Option TyI} {N:Nat} {s:AS} {rv:List ResultVar} {R:AV→List (List AV)→Prop} {e:Exit} (g:Nat) {xs:List AV} {r:AV} {l:List AV} (he:e=.normal∨e=.ret) (hx:finA ty N s rv=some xs) (hob:s.ob 1000000=some l) (h:ALe (outA [1000000] g (retA xs)) r) (hR:R r [outAs [1000000] g l]):EndA ty N 1 rv R e s :=
 ⟨he,[],g,xs,[outAs [1000000] g l],hx,by simp [lentN],by simp,by simp [lentN,obsOut,hob],r,by simpa [lentN] using h,hR⟩
theorem endN {ty:TypeId→Option TyI} {N:Nat} {s:AS} {rv:List ResultVar} {R:AV→List (List AV)→Prop} {e:Exit} (o:Nat) {xs:List AV} {r:AV} {l:List AV} (he:e=.normal∨e=.ret) (hx:finA ty N s rv=some xs) (hlt:o<1000000) (hob:s.ob o=some l) (h:ALe (outA [o] 0 (retA xs)) r) (hR:R r [outAs [o] 0 l]):EndA ty N 0 rv R e s :=
 ⟨he,[o],0,xs,[outAs [o] 0 l],hx,by simp [lentN],by simpa using hlt,by simp [lentN,obsOut,hob],r,by simpa [lentN] using h,hR⟩
theorem andI_255 (x:Int):0≤andI x 255∧andI x 255≤255:=by
 unfold andI
 have h1:(BitVec.ofInt 64 x &&& BitVec.ofInt 64 255).toNat≤255:=by
  rw [BitVec.toNat_and]
  exact Nat.le_trans Nat.and_le_right (by decide)
 rw [i64_wrap_id (by unfold I64;omega)]
 omega
theorem getDB {l:List Int} {i:Nat} {x:DV} (h:i<l.length):(l.map DV.byte).getD i x=.byte (ix l i):=by simp [List.getD,ix,h]
theorem l1ByteC (l:List Int) (i h:Int) (hi:0≤i) (hl:l.length≤9223372036854775807):AFn 56 [.ptr 0 0] [curC l i h] (fun r os=>∃ x i' h',(0≤x∧x≤255)∧0≤i'∧r=.d (.int x)∧os=[curC l i' h']):=by
 refine afn_of (rv:=[.tmp 2]) tyT_ok Try.func56 rfl (by decide +kernel) Try.ntmps56 rfl (by simp) ?_
 repeat' (first | refine sq ?_ | refine stp ?_ | refine blk_o (by decide) ?_ | (apply cb;(focus (simp (disch:=(first | omega | (simp;omega))) only [go_sem,w64,curC];try exact rfl));refine cok ?_) | (refine rgT ?_;intro K hK) | (refine dA ?_;intro K hK) | (with_reducible refine hK _ ?_;clear hK K) | (refine stq ?_;simp (disch:=(first | omega | (simp;omega))) only [go_sem,w64,curC]) | refine as1 ?_ | fail)
 generalize IntKind.i64.wrap (IntKind.i64.wrap (h*6364136223846793005)+1442695040888963407)=h'
 have hx:=andI_255 (xorI (shrI h' 33) (shrI h' 45))
 generalize andI (xorI (shrI h' 33) (shrI h' 45)) 255=x at hx
 refine awp_if (p:=i<(l.length:Nat)) (by simp (disch:=(first | omega | (simp;omega))) only [go_sem,w64]) ?_ ?_ <;> intro hc
 ·have hk:i.toNat<l.length:=by omega
  have hw:IntKind.i64.wrap (i+1)=i+1:=w64 (by omega)
  repeat' (first | refine sq ?_ | refine stp ?_ | refine blk_o (by decide) ?_ | (apply cb;(focus (simp (disch:=(first | omega | (simp;omega))) only [go_sem,w64,getDB,hw];try exact rfl));refine cok ?_) | (refine rgT ?_;intro K hK) | (refine dA ?_;intro K hK) | (with_reducible refine hK _ ?_;clear hK K) | (refine stq ?_;simp (disch:=(first | omega | (simp;omega))) only [go_sem,w64,getDB,hw]) | refine as1 ?_ | fail)
  have hy:=andI_255 (IntKind.i64.wrap (x+ix l i.toNat))
  refine end1 0 (.inr rfl) (by simp (disch:=(first | omega | (simp;omega))) only [go_sem,w64];rfl) (by simp (disch:=(first | omega | (simp;omega))) only [go_sem,w64];rfl) (r:=.d (.int (andI (IntKind.i64.wrap (x+ix l i.toNat)) 255))) (by simp (disch:=(first | omega | (simp;omega))) only [go_sem,w64];exact .refl _) ?_
  exact ⟨_,i+1,h',hy,by omega,rfl,rfl⟩
 ·repeat' (first | refine sq ?_ | refine stp ?_ | refine blk_o (by decide) ?_ | (apply cb;(focus (simp (disch:=(first | omega | (simp;omega))) only [go_sem,w64];try exact rfl));refine cok ?_) | (refine rgT ?_;intro K hK) | (refine dA ?_;intro K hK) | (with_reducible refine hK _ ?_;clear hK K) | (refine stq ?_;simp (disch:=(first | omega | (simp;omega))) only [go_sem,w64]) | refine as1 ?_ | fail)
  refine end1 0 (.inr rfl) (by simp (disch:=(first | omega | (simp;omega))) only [go_sem,w64];rfl) (by simp (disch:=(first | omega | (simp;omega))) only [go_sem,w64];rfl) (r:=.d (.int x)) (by simp (disch:=(first | omega | (simp;omega))) only [go_sem,w64];exact .refl _) ?_
  exact ⟨_,i,h',hx,hi,rfl,rfl⟩
theorem l1ByteA:AFn 56 [.ptr 0 0] [curL] (fun r os=>∃ x:Int,(0≤x∧x≤255)∧r=.d (.int x)∧os=[curL]):=by
 refine afn_cur (fun l i h hi hl=>afn_weak1 (l1ByteC l i h hi hl) ?_)
 rintro r os ⟨x,i',h',hx,hi',rfl,rfl⟩
 exact ⟨_,_,_,rfl,.refl _,cur_le hi',x,hx,rfl,rfl⟩
theorem l1BelowA (n:Int):AFn 40 [.ptr 0 0,.d (.int n)] [curL] (fun r os=>∃ x:Int,(0≤x∧(n≤0→x=0)∧(0<n→x<n))∧r=.d (.int x)∧os=[curL]):=by
 refine afn_of (rv:=[.tmp 4]) tyT_ok Try.func40 rfl (by decide +kernel) Try.ntmps40 rfl (by simp) ?_
 repeat' (first | refine sq ?_ | refine stp ?_ | refine blk_o (by decide) ?_ | (apply cb;(focus (simp (disch:=(first | omega | (simp;omega))) only [go_sem,w64];try exact rfl));refine cok ?_) | (refine rgT ?_;intro K hK) | (refine dA ?_;intro K hK) | (with_reducible refine hK _ ?_;clear hK K) | (refine stq ?_;simp (disch:=(first | omega | (simp;omega))) only [go_sem,w64]) | refine as1 ?_ | fail)
 refine awp_if (p:=n≤0) (by simp (disch:=(first | omega | (simp;omega))) only [go_sem,w64]) ?_ ?_ <;> intro hc
 ·repeat' (first | refine sq ?_ | refine stp ?_ | refine blk_o (by decide) ?_ | (apply cb;(focus (simp (disch:=(first | omega | (simp;omega))) only [go_sem,w64];try exact rfl));refine cok ?_) | (refine rgT ?_;intro K hK) | (refine dA ?_;intro K hK) | (with_reducible refine hK _ ?_;clear hK K) | (refine stq ?_;simp (disch:=(first | omega | (simp;omega))) only [go_sem,w64]) | refine as1 ?_ | fail)
  refine end1 0 (.inr rfl) (by simp (disch:=(first | omega | (simp;omega))) only [go_sem,w64];rfl) (by simp (disch:=(first | omega | (simp;omega))) only [go_sem,w64];rfl) (r:=.d (.int 0)) (by simp (disch:=(first | omega | (simp;omega))) only [go_sem,w64];exact .refl _) ?_
  exact ⟨0,⟨by omega,fun _=>rfl,fun h=>h⟩,rfl,rfl⟩
 ·repeat' (first | refine sq ?_ | refine stp ?_ | refine blk_o (by decide) ?_ | (apply cb;(focus (simp (disch:=(first | omega | (simp;omega))) only [go_sem,w64];try exact rfl));refine cok ?_) | (refine rgT ?_;intro K hK) | (refine dA ?_;intro K hK) | (with_reducible refine hK _ ?_;clear hK K) | (refine stq ?_;simp (disch:=(first | omega | (simp;omega))) only [go_sem,w64]) | refine as1 ?_ | fail)
  refine awp_if (p:=n≤256) (by simp (disch:=(first | omega | (simp;omega))) only [go_sem,w64]) ?_ ?_ <;> intro hc2
  ·have hn0:n ≠ 0:=by omega
   repeat' (first | refine sq ?_ | refine stp ?_ | refine blk_o (by decide) ?_ | (apply cb;(focus (simp (disch:=(first | omega | (simp;omega))) only [go_sem,w64];try exact rfl));refine cok ?_) | (refine rgT ?_;intro K hK) | (refine dA ?_;intro K hK) | (with_reducible refine hK _ ?_;clear hK K) | (refine stq ?_;simp (disch:=(first | omega | (simp;omega))) only [go_sem,w64]) | refine as1 ?_ | fail)
   (refine callL 1000000 (l1ByteA) ?_)
   rintro r os ⟨x,hx,rfl,rfl⟩
   refine ⟨by decide,?_⟩
   repeat' (first | refine sq ?_ | refine stp ?_ | refine blk_o (by decide) ?_ | (apply cb;(focus (simp (disch:=(first | omega | (simp;omega))) only [go_sem,w64,hn0];try exact rfl));refine cok ?_) | (refine rgT ?_;intro K hK) | (refine dA ?_;intro K hK) | (with_reducible refine hK _ ?_;clear hK K) | (refine stq ?_;simp (disch:=(first | omega | (simp;omega))) only [go_sem,w64,hn0]) | refine as1 ?_ | fail)
   refine end1 0 (.inr rfl) (by simp (disch:=(first | omega | (simp;omega))) only [go_sem,w64];rfl) (by simp (disch:=(first | omega | (simp;omega))) only [go_sem,w64];rfl) (r:=.d (.int (x.tmod n))) (by simp (disch:=(first | omega | (simp;omega))) only [go_sem,w64];exact .refl _) ?_
   have e:x.tmod n=x % n:=Int.tmod_eq_emod_of_nonneg hx.1
   have e1:=Int.emod_nonneg x hn0
   have e2:=Int.emod_lt_of_pos x (show 0<n by omega)
   exact ⟨_,⟨by omega,fun h=>by omega,fun _=>by omega⟩,rfl,rfl⟩
  ·have hn0:n ≠ 0:=by omega
   repeat' (first | refine sq ?_ | refine stp ?_ | refine blk_o (by decide) ?_ | (apply cb;(focus (simp (disch:=(first | omega | (simp;omega))) only [go_sem,w64];try exact rfl));refine cok ?_) | (refine rgT ?_;intro K hK) | (refine dA ?_;intro K hK) | (with_reducible refine hK _ ?_;clear hK K) | (refine stq ?_;simp (disch:=(first | omega | (simp;omega))) only [go_sem,w64]) | refine as1 ?_ | fail)
   (refine callL 1000000 (l1ByteA) ?_)
   rintro r os ⟨x,hx,rfl,rfl⟩
   refine ⟨by decide,?_⟩
   repeat' (first | refine sq ?_ | refine stp ?_ | refine blk_o (by decide) ?_ | (apply cb;(focus (simp (disch:=(first | omega | (simp;omega))) only [go_sem,w64];try exact rfl));refine cok ?_) | (refine rgT ?_;intro K hK) | (refine dA ?_;intro K hK) | (with_reducible refine hK _ ?_;clear hK K) | (refine stq ?_;simp (disch:=(first | omega | (simp;omega))) only [go_sem,w64]) | refine as1 ?_ | fail)
   (refine callL 1000000 (l1ByteA) ?_)
   rintro r os ⟨y,hy,rfl,rfl⟩
   refine ⟨by decide,?_⟩
   repeat' (first | refine sq ?_ | refine stp ?_ | refine blk_o (by decide) ?_ | (apply cb;(focus (simp (disch:=(first | omega | (simp;omega))) only [go_sem,w64];try exact rfl));refine cok ?_) | (refine rgT ?_;intro K hK) | (refine dA ?_;intro K hK) | (with_reducible refine hK _ ?_;clear hK K) | (refine stq ?_;simp (disch:=(first | omega | (simp;omega))) only [go_sem,w64]) | refine as1 ?_ | fail)
   (refine callL 1000000 (l1ByteA) ?_)
   rintro r os ⟨z,hz,rfl,rfl⟩
   refine ⟨by decide,?_⟩
   repeat' (first | refine sq ?_ | refine stp ?_ | refine blk_o (by decide) ?_ | (apply cb;(focus (simp (disch:=(first | omega | (simp;omega))) only [go_sem,w64];try exact rfl));refine cok ?_) | (refine rgT ?_;intro K hK) | (refine dA ?_;intro K hK) | (with_reducible refine hK _ ?_;clear hK K) | (refine stq ?_;simp (disch:=(first | omega | (simp;omega))) only [go_sem,w64]) | refine as1 ?_ | fail)
   (refine callL 1000000 (l1ByteA) ?_)
   rintro r os ⟨v,hv,rfl,rfl⟩
   refine ⟨by decide,?_⟩
   have w1:IntKind.i64.wrap (x*16777216)=x*16777216:=w64 (by omega)
   have w2:IntKind.i64.wrap (y*65536)=y*65536:=w64 (by omega)
   have w3:IntKind.i64.wrap (x*16777216+y*65536)=x*16777216+y*65536:=w64 (by omega)
   have w4:IntKind.i64.wrap (z*256)=z*256:=w64 (by omega)
   have w5:IntKind.i64.wrap (x*16777216+y*65536+z*256)=x*16777216+y*65536+z*256:=w64 (by omega)
   have w6:IntKind.i64.wrap (x*16777216+y*65536+z*256+v)=x*16777216+y*65536+z*256+v:=w64 (by omega)
   repeat' (first | refine sq ?_ | refine stp ?_ | refine blk_o (by decide) ?_ | (apply cb;(focus (simp (disch:=(first | omega | (simp;omega))) only [go_sem,w64,hn0,w1,w2,w3,w4,w5,w6];try exact rfl));refine cok ?_) | (refine rgT ?_;intro K hK) | (refine dA ?_;intro K hK) | (with_reducible refine hK _ ?_;clear hK K) | (refine stq ?_;simp (disch:=(first | omega | (simp;omega))) only [go_sem,w64,hn0,w1,w2,w3,w4,w5,w6]) | refine as1 ?_ | fail)
   refine end1 0 (.inr rfl) (by simp (disch:=(first | omega | (simp;omega))) only [go_sem,w64];rfl) (by simp (disch:=(first | omega | (simp;omega))) only [go_sem,w64];rfl) (r:=.d (.int ((x*16777216+y*65536+z*256+v).tmod n))) (by simp (disch:=(first | omega | (simp;omega))) only [go_sem,w64];exact .refl _) ?_
   generalize hq:x*16777216+y*65536+z*256+v=q
   have hq0:0≤q:=by omega
   have e:q.tmod n=q % n:=Int.tmod_eq_emod_of_nonneg hq0
   have e1:=Int.emod_nonneg q hn0
   have e2:=Int.emod_lt_of_pos q (show 0<n by omega)
   exact ⟨_,⟨by omega,fun h=>by omega,fun _=>by omega⟩,rfl,rfl⟩
theorem l1NewA (l:List Int) (hl:l.length≤1048576):AFn 23 [.d (.sl 1 (l.map .byte))] [] (fun r os=>r=.ptr 0 0∧os=[curL]):=by
 have h:AFn 23 [.d (.sl 1 (l.map .byte))] [] (fun r os=>∃ h,r=.ptr 0 0∧os=[curC l 0 h]):=by
  refine afn_of (rv:=[.tmp 2]) tyT_ok Try.func23 rfl (by decide +kernel) Try.ntmps23 rfl (by simp) ?_
  repeat' (first | refine sq ?_ | refine stp ?_ | refine blk_o (by decide) ?_ | (apply cb;(focus (simp (disch:=(first | omega | (simp;omega))) only [go_sem,w64];try exact rfl));refine cok ?_) | (refine rgT ?_;intro K hK) | (refine dA ?_;intro K hK) | (with_reducible refine hK _ ?_;clear hK K) | (refine stq ?_;simp (disch:=(first | omega | (simp;omega))) only [go_sem,w64]) | refine as1 ?_ | fail)
  refine awp_loopw (fun m s=>∃ (k:Nat) (h:Int),m=l.length - k∧k≤l.length∧s=mkS [(0,.d (.sl 1 (l.map .byte))),(3,.d (.int h)),(4,.d (.int (k:Nat)))] []) ?_ ?_
  ·refine ⟨_,_,?_,0,IntKind.i64.wrap (10101+(l.length:Nat)),rfl,Nat.zero_le _,rfl⟩
   exact sleA
  ·rintro m s ⟨k,h,rfl,hk,rfl⟩
   have fin:∀ (h:Int),∃ h',AV.ptr 0 0=AV.ptr 0 0∧[curC l 0 h]=[curC l 0 h']:=fun h=>⟨h,rfl,rfl⟩
   by_cases h1:(k:Int)<(l.length:Nat)
   ·by_cases h2:(k:Int)<4000
    ·repeat' (first | refine sq ?_ | refine stp ?_ | refine blk_o (by decide) ?_ | (apply cb;(focus (simp (disch:=(first | omega | (simp;omega))) only [go_sem,w64,h1,h2,getDB];try exact rfl));refine cok ?_) | (refine rgT ?_;intro K hK) | (refine dA ?_;intro K hK) | (with_reducible refine hK _ ?_;clear hK K) | (refine stq ?_;simp (disch:=(first | omega | (simp;omega))) only [go_sem,w64,h1,h2,getDB]) | refine as1 ?_ | fail)
     refine ⟨l.length - (k+1),_,by omega,?_,k+1,?hv,rfl,by omega,rfl⟩
     ·exact sleA
    ·have h2':(k:Int)<4000↔False:=iff_of_false h2 id
     repeat' (first | refine sq ?_ | refine stp ?_ | refine blk_o (by decide) ?_ | (apply cb;(focus (simp (disch:=(first | omega | (simp;omega))) only [go_sem,w64,h1,h2'];try exact rfl));refine cok ?_) | (refine rgT ?_;intro K hK) | (refine dA ?_;intro K hK) | (with_reducible refine hK _ ?_;clear hK K) | (refine stq ?_;simp (disch:=(first | omega | (simp;omega))) only [go_sem,w64,h1,h2']) | refine as1 ?_ | fail)
     refine endN 31 (.inr rfl) (by simp (disch:=(first | omega | (simp;omega))) only [go_sem,w64];rfl) (by decide) (by simp (disch:=(first | omega | (simp;omega))) only [go_sem,w64];rfl) (r:=.ptr 0 0) (by simp (disch:=(first | omega | (simp;omega))) only [go_sem,w64];exact .refl _) ?_
     exact fin h
   ·have h1':(k:Int)<(l.length:Nat)↔False:=iff_of_false h1 id
    repeat' (first | refine sq ?_ | refine stp ?_ | refine blk_o (by decide) ?_ | (apply cb;(focus (simp (disch:=(first | omega | (simp;omega))) only [go_sem,w64,h1'];try exact rfl));refine cok ?_) | (refine rgT ?_;intro K hK) | (refine dA ?_;intro K hK) | (with_reducible refine hK _ ?_;clear hK K) | (refine stq ?_;simp (disch:=(first | omega | (simp;omega))) only [go_sem,w64,h1']) | refine as1 ?_ | fail)
    refine endN 31 (.inr rfl) (by simp (disch:=(first | omega | (simp;omega))) only [go_sem,w64];rfl) (by decide) (by simp (disch:=(first | omega | (simp;omega))) only [go_sem,w64];rfl) (r:=.ptr 0 0) (by simp (disch:=(first | omega | (simp;omega))) only [go_sem,w64];exact .refl _) ?_
    exact fin h
 refine afn_weak1 h ?_
 rintro r os ⟨h',rfl,rfl⟩
 exact ⟨_,_,_,rfl,.refl _,cur_le (by omega),rfl,rfl⟩
theorem bigA (code:List Int) (hl:code.length≤9223372036854775807):AFn 5 [.d (.sl 1 (code.map .byte))] [] (fun r os=>r=.d (.bool (decide ((1048576:Int)<(code.length:Nat))))∧os=[]):=by
 refine afn_of (rv:=[.tmp 2]) tyT_ok Try.func5 rfl (by decide +kernel) Try.ntmps5 rfl (by simp) ?_
 repeat' (first | refine sq ?_ | refine stp ?_ | refine blk_o (by decide) ?_ | (apply cb;(focus (simp (disch:=(first | omega | (simp;omega))) only [go_sem,w64];try exact rfl));refine cok ?_) | (refine rgT ?_;intro K hK) | (refine dA ?_;intro K hK) | (with_reducible refine hK _ ?_;clear hK K) | (refine stq ?_;simp (disch:=(first | omega | (simp;omega))) only [go_sem,w64]) | refine as1 ?_ | fail)
 (refine endA (r:=.d (.bool (decide ((1048576:Int)<(code.length:Nat))))) ?_)
 exact ⟨rfl,rfl⟩
theorem l1PickIntM (xs:List Int) (h0:0<xs.length):AFn 58 [.ptr 0 0,.d (intsD xs)] [curL] (fun r os=>∃ x:Int,x∈xs∧r=.d (.int x)∧os=[curL]):=by
 refine afn_of (rv:=[.tmp 4]) tyT_ok Try.func58 rfl (by decide +kernel) Try.ntmps58 rfl (by simp) ?_
 repeat' (first | refine sq ?_ | refine stp ?_ | refine blk_o (by decide) ?_ | (apply cb;(focus (simp (disch:=(first | omega | (simp;omega))) only [go_sem,w64,intsD];try exact rfl));refine cok ?_) | (refine rgT ?_;intro K hK) | (refine dA ?_;intro K hK) | (with_reducible refine hK _ ?_;clear hK K) | (refine stq ?_;simp (disch:=(first | omega | (simp;omega))) only [go_sem,w64,intsD]) | refine as1 ?_ | fail)
 (refine callL 1000000 (l1BelowA (xs.length:Nat)) ?_)
 rintro r os ⟨x,⟨hx0,_,hx1⟩,rfl,rfl⟩
 have hx2:=hx1 (by omega)
 have hk:x.toNat<xs.length:=by omega
 refine ⟨by decide,?_⟩
 repeat' (first | refine sq ?_ | refine stp ?_ | refine blk_o (by decide) ?_ | (apply cb;(focus (simp (disch:=(first | omega | (simp;omega))) only [go_sem,w64,intsD];try exact rfl));refine cok ?_) | (refine rgT ?_;intro K hK) | (refine dA ?_;intro K hK) | (with_reducible refine hK _ ?_;clear hK K) | (refine stq ?_;simp (disch:=(first | omega | (simp;omega))) only [go_sem,w64,intsD]) | refine as1 ?_ | fail)
 refine end1 0 (.inr rfl) (by simp (disch:=(first | omega | (simp;omega))) only [go_sem,w64];rfl) (by simp (disch:=(first | omega | (simp;omega))) only [go_sem,w64];rfl) (r:=.d (.int (ix xs x.toNat))) (by simp (disch:=(first | omega | (simp;omega))) only [go_sem,w64];exact .refl _) ?_
 exact ⟨_,by rw [ix_lt hk];exact List.getElem_mem _,rfl,rfl⟩
end Go.Proofs.Ytalkhmgfnmaaaaa
