/- Lemmas for the proof of FnExactMaximize, part 55 of 56: no condition of their own. -/
import Derived.Test.YtpbclpopoodklaaReads
import Derived.Test.YtpbclpopoodklaaR8
import Derived.ChangeSame
namespace Go.Proofs.Ytpbclpopoodklaa
set_option linter.unusedSimpArgs false
set_option linter.unusedVariables false
open Go.ChangeShapes Go.WideShapes Go.ChangeAt Go.RowKit Go.Deep
theorem cellsIntR:Try.prog.cellsOf 3=1:=by kernel_rfl
theorem cellsRatL:Try.prog.cellsOf 62=2:=by kernel_rfl
theorem cellsRatsL:Try.prog.cellsOf 23=1:=by kernel_rfl
theorem cellsMatL:Try.prog.cellsOf 22=1:=by kernel_rfl
theorem cellsLPL:Try.prog.cellsOf 25=3:=by kernel_rfl
theorem reads_ratBy:ReadsBy ratR 62:=by
  intro H enc W fuel cs x h
  obtain ⟨y0,y1,m,_,hl,h0,h1⟩:=trod_struct2 Try.underlying62 h
  rw [cellsRatL] at hl
  match cs,hl with
  | [c0,c1],_ =>
    simp only [List.drop_zero,List.drop_succ_cons,cellsIntR,List.take_succ_cons,List.take_zero] at h0 h1
    obtain ⟨n,e0,_,hw⟩:=DataW.trod_int Try.underlying3 h0
    obtain ⟨d,e1,_,hw1⟩:=DataW.trod_int Try.underlying3 h1
    simp only [List.cons.injEq,and_true] at e0 e1
    subst e0;subst e1
    exact ⟨⟨n,d⟩,rfl,i64_of_wf hw,i64_of_wf hw1⟩
theorem reads_ratsA {H:Type} (enc:TypeId×Value→H) (W:World) (fuel:Nat) (cs:List Value) (x:DataW H×List MemPlace) (h:DataW.trod enc Try.prog W 0 (fun _=>true) true fuel 23 cs=some x) :
    ∃ a n c xs,cs=[.slice a n c]∧RatsA false 0 W.heap.size W a n c xs:=reads_slice Try.underlying23 cellsRatL (by omega) reads_ratBy enc W fuel cs x h
theorem reads_ratsBy:ReadsBy matR 23:=by
  intro H enc W fuel cs x h
  obtain ⟨a,n,c,xs,h1,h2⟩:=reads_ratsA enc W fuel cs x h
  exact ⟨xs,a,n,c,h1,h2⟩
theorem reads_matA {H:Type} (enc:TypeId×Value→H) (W:World) (fuel:Nat) (cs:List Value) (x:DataW H×List MemPlace) (h:DataW.trod enc Try.prog W 0 (fun _=>true) true fuel 22 cs=some x) :
    ∃ a n c xs,cs=[.slice a n c]∧MatA false 0 W.heap.size W a n c xs:=reads_slice Try.underlying22 cellsRatsL (by omega) reads_ratsBy enc W fuel cs x h
theorem reads_lpC {H:Type} (enc:TypeId×Value→H) (W:World) (fuel:Nat) (cs:List Value) (x:DataW H×List MemPlace)
    (h:DataW.trod enc Try.prog W 0 (fun _=>true) true fuel 25 cs=some x) :
    ∃ a n c xs ba bn bc bs ca cn cc zs,cs=[.slice a n c,.slice ba bn bc,.slice ca cn cc]∧LPA false 0 W.heap.size W a n c xs ba bn bc bs ca cn cc zs:=by
  obtain ⟨ys,m,_,_,hl,hlen,hf⟩:=DataW.trod_struct Try.underlying25 h
  rw [cellsLPL] at hl
  match ys,hlen with
  | [y0,y1,y2],_ =>
    match cs,hl with
    | [c0,c1,c2],_ =>
      have h0:=hf 0 _ rfl
      have h1:=hf 1 _ rfl
      have h2:=hf 2 _ rfl
      change DataW.trod enc Try.prog W 0 (fun _=>true) true m 22 (([c0,c1,c2].drop 0).take (Try.prog.cellsOf 22))=some y0 at h0
      change DataW.trod enc Try.prog W 0 (fun _=>true) true m 23 (([c0,c1,c2].drop 1).take (Try.prog.cellsOf 23))=some y1 at h1
      change DataW.trod enc Try.prog W 0 (fun _=>true) true m 23 (([c0,c1,c2].drop 2).take (Try.prog.cellsOf 23))=some y2 at h2
      rw [cellsMatL] at h0
      rw [cellsRatsL] at h1 h2
      simp only [List.drop_zero,List.drop_succ_cons,List.take_succ_cons,List.take_zero] at h0 h1 h2
      obtain ⟨a,n,c,xs,e0,hR⟩:=reads_matA enc W m _ _ h0
      obtain ⟨ba,bn,bc,bs,e1,hR1⟩:=reads_ratsA enc W m _ _ h1
      obtain ⟨ca,cn,cc,zs,e2,hR2⟩:=reads_ratsA enc W m _ _ h2
      simp only [List.cons.injEq,and_true] at e0 e1 e2
      subst e0;subst e1;subst e2
      exact ⟨a,n,c,xs,ba,bn,bc,bs,ca,cn,cc,zs,rfl,hR,hR1,hR2⟩
theorem reads_lp {H:Type} (enc:TypeId×Value→H) (W:World) {base:Nat} {v:Value} {d:DataW H} {p:List MemPlace} (hv:Value.okWide Try.prog W .any base 25 v)
    (h:DataW.Trod enc Try.prog W 0 (fun _=>true) true 25 v d p) :
    ∃ a n c xs ba bn bc bs ca cn cc zs,v=lpVal a n c ba bn bc ca cn cc∧LPA false 0 W.heap.size W a n c xs ba bn bc bs ca cn cc zs:=by
  obtain ⟨cs,rfl,hsz⟩:=okWide_struct Try.underlying25 hv
  obtain ⟨fuel,hf⟩:=h
  obtain ⟨a,n,c,xs,ba,bn,bc,bs,ca,cn,cc,zs,hcs,hD⟩:=reads_lpC enc W fuel _ _ hf
  obtain ⟨l⟩:=cs
  simp only [Value.cells] at hcs
  subst hcs
  exact ⟨a,n,c,xs,ba,bn,bc,bs,ca,cn,cc,zs,rfl,hD⟩
end Go.Proofs.Ytpbclpopoodklaa
