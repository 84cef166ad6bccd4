/- Lemmas for the proof of FnExactMaximize, part 34 of 56: no condition of their own. -/
import Derived.Test.YtpbclpopoodklaaSL
import Derived.Test.YtpbclpopoodklaaSE
namespace Go.Proofs.Ytpbclpopoodklaa
set_option linter.unusedSimpArgs false
set_option linter.unusedVariables false
open Go.RowKit
section
variable (A:List (List RatD)) (B Cc:List RatD) (rows:List (List RatD)) (right:List RatD) (sg:Int)
def leafF (ch:List Nat) (outs:List (List RatD)):List (List RatD):=match solF (ch.map (mx rows ·)) (ch.map (qx right ·)) with
  | none=>outs
  | some x=>if feasF A B Cc x sg=true then (if outs.any (fun y=>eqQ x y)=true then outs else outs ++ [x]) else outs
def chF:Nat→Nat→List Nat→List (List RatD)→List (List RatD)
  | 0,_,ch,outs=>leafF A B Cc rows right sg ch outs
  | d+1,k,ch,outs=>(List.range' k (rows.length - k)).foldl (fun o j=>chF d (j+1) (ch ++ [j]) o) outs
theorem leafF_len (ch:List Nat) (outs:List (List RatD)):(leafF A B Cc rows right sg ch outs).length≤outs.length+1:=by
  unfold leafF
  split
  · omega
  · split
    · split
      · omega
      · simp
    · omega
theorem leafF_mem {ch:List Nat} {outs:List (List RatD)} {y:List RatD} (h:y∈leafF A B Cc rows right sg ch outs):y∈outs∨y.length=ch.length:=by
  unfold leafF at h
  split at h
  · exact .inl h
  · rename_i x hx
    split at h
    · split at h
      · exact .inl h
      · rcases List.mem_append.1 h with h | h
        · exact .inl h
        · right
          rw [List.mem_singleton.1 h]
          unfold solF at hx
          split at hx
          · cases hx
          · rw [outTo_len hx];simp
    · exact .inl h
end
structure RowsOK (A:List (List RatD)) (B Cc:List RatD) (rows:List (List RatD)) (right:List RatD) (n:Nat):Prop where
  n1:1≤n
  n5:n≤5
  lp:lpV A B Cc=true
  cl:Cc.length=n
  T:rows.length≤10
  bl:right.length=rows.length
  rr:∀ i,i<rows.length→(mx rows i).length=n
  rv:∀ i,i<rows.length→vL (mx rows i)=true
  bv:vL right=true
theorem RowsOK.sys {A:List (List RatD)} {B Cc:List RatD} {rows:List (List RatD)} {right:List RatD} {n:Nat} (h:RowsOK A B Cc rows right n) {ch:List Nat} (hl:ch.length=n) (hc:∀ k∈ch,k<rows.length):SysOK (ch.map (mx rows ·)) (ch.map (qx right ·)) n:=by
  have hm:∀ i,i<n→mx (ch.map (mx rows ·)) i=mx rows (ch.getD i 0)∧ch.getD i 0<rows.length:=fun i hi=>by
    have hi2:i<ch.length:=by omega
    refine ⟨by simp [mx,List.getD,hi2],?_⟩
    exact hc _ (getD_mem hi2)
  refine ⟨h.n1,by have:=h.n5;omega,by simp [hl],by simp [hl],fun i hi=>?_,fun i hi=>?_,?_⟩
  · rw [(hm i hi).1];exact h.rr _ (hm i hi).2
  · rw [(hm i hi).1];exact h.rv _ (hm i hi).2
  · unfold vL
    rw [List.all_eq_true]
    intro x hx
    obtain ⟨k,hk,rfl⟩:=List.mem_map.1 hx
    exact vL_at h.bv (by rw [h.bl];exact hc k hk)
def unitR (n i:Nat):List RatD:=(List.range n).map fun k=>⟨if i=k then 1 else 0,1⟩
def rowsF (A:List (List RatD)) (n:Nat):List (List RatD):=A ++ (List.range n).map (unitR n)
def rightF (B:List RatD) (n:Nat):List RatD:=B ++ List.replicate n ⟨0,1⟩
theorem unit_vL (n i:Nat):vL (unitR n i)=true:=by
  unfold vL unitR
  rw [List.all_eq_true]
  intro x hx
  obtain ⟨k,_,rfl⟩:=List.mem_map.1 hx
  by_cases h:i=k
  · rw [if_pos h];decide
  · rw [if_neg h];decide
theorem rows_ok {A:List (List RatD)} {B Cc:List RatD} (h:lpV A B Cc=true):RowsOK A B Cc (rowsF A Cc.length) (rightF B Cc.length) Cc.length:=by
  obtain ⟨h1,h2,h3,h4,h5⟩:=lpV_out h
  obtain ⟨h6,h7⟩:=matOK_out h3
  have hl:(rowsF A Cc.length).length=A.length+Cc.length:=by simp [rowsF]
  have hm:∀ i,i<(rowsF A Cc.length).length→mx (rowsF A Cc.length) i=if i<A.length then mx A i else unitR Cc.length (i - A.length):=fun i hi=>by
    by_cases e:i<A.length
    · rw [if_pos e]
      simp [mx,rowsF,List.getD,List.getElem?_append,e]
    · rw [if_neg e]
      have:i - A.length<Cc.length:=by omega
      simp [mx,rowsF,List.getD,List.getElem?_append,e,this]
  refine ⟨h1.1,h1.2,h,rfl,by omega,by simp [rowsF,rightF,h6],fun i hi=>?_,fun i hi=>?_,?_⟩
  · rw [hm i hi]
    split
    · rename_i e;exact (h7 i e).1
    · simp [unitR]
  · rw [hm i hi]
    split
    · rename_i e;exact (h7 i e).2
    · exact unit_vL _ _
  · unfold vL rightF
    rw [List.all_append]
    have h8:B.all vR=true:=h4
    rw [h8,Bool.true_and,List.all_eq_true]
    intro x hx
    rw [(List.mem_replicate.1 hx).2]
    decide
def vertF (A:List (List RatD)) (B Cc:List RatD) (sg:Int):List (List RatD):=chF A B Cc (rowsF A Cc.length) (rightF B Cc.length) sg Cc.length 0 [] []
end Go.Proofs.Ytpbclpopoodklaa
