/- Proof of the tied card of FnCoverDuality: it returns true for every input and leaves its arguments as they were, where the package variable oneRational reads as the program's text lays it (the card ties that). -/
import Derived.Test.YtkohkoiegmcghaaDoorJ25
import Derived.Test.YtkohkoiegmcghaaDoorJ24
import Derived.Test.YtkohkoiegmcghaaDoorCards
import Derived.Test.YtkohkoiegmcghaaDoorTie
import Derived.ProofKit
import Derived.LaidMore
import Derived.OpenShut
import Derived.OpenVars
import Derived.Stop.Joined
import Derived.SevenTiedAt
namespace Go.Proofs.YtkohkoiegmcghaaDoor.fnCoverDuality
open Go.ChangeShapes Go.WideShapes Go.ChangeAt Go.RowKit Go.Deep
set_option linter.unusedVariables false
theorem gOne:Tryd.prog.globalNamed "loop.example/g01917/impl.oneRational" = some 0:=by kernel_rfl
theorem tOne:(Tryd.prog.globals[0]?).map (·.type)=some 33:=by kernel_rfl
theorem cI:Tryd.prog.cellsOf 3=1:=by kernel_rfl
theorem cR:Tryd.prog.cellsOf 33=2:=by kernel_rfl
set_option maxRecDepth 100000 in
theorem of_laid {W:World} (h:laidMetH Tryd.prog [("loop.example/g01917/impl.oneRational",Rows.laid_loop_example_g01917_impl_oneRational)] W):GlobW W:=by
 rw [MakeChecks.laidMetH_plain _ _ _ (by kernel_rfl)] at h
 obtain ⟨ps,⟨g0,t0,cs0,f0,p0,q0,hg0,ht0,hv0,hd0,_,_⟩,_,_⟩:=h
 obtain rfl:=Option.some.inj (gOne.symm.trans hg0)
 obtain rfl:=Option.some.inj (tOne.symm.trans ht0)
 obtain ⟨y0,y1,m,hx,hl,h0,h1⟩:=trod_struct2 Tryd.underlying33 hd0
 rw [cR] at hl
 obtain ⟨l1⟩:=cs0
 match l1,hl with
 | [c0,c1],_ =>
  simp only [List.drop_zero,List.drop_succ_cons,cI,List.take_succ_cons,List.take_zero] at h0 h1
  obtain ⟨k0,e0,e2,_⟩:=DataW.trod_int Tryd.underlying3 h0
  obtain ⟨k1,e1,e3,_⟩:=DataW.trod_int Tryd.underlying3 h1
  simp only [List.cons.injEq,and_true] at e0 e1
  subst e0;subst e1;subst e2;subst e3
  simp only [Rows.laid_loop_example_g01917_impl_oneRational,Prod.mk.injEq,DataW.agg.injEq,List.cons.injEq,DataW.lit.injEq,Lit.int.injEq,true_and,and_true] at hx
  obtain ⟨⟨rfl,rfl⟩,_⟩:=hx
  exact ⟨by simpa using World.var?_cell hg0 hv0 0,by simpa using World.var?_cell hg0 hv0 1⟩
theorem door_met (os:Os) (args:Array Value):laidMetH Tryd.prog [("loop.example/g01917/impl.oneRational",Rows.laid_loop_example_g01917_impl_oneRational)] ((World.doorLaid Tryd.prog 400 os).forCall (fun _ _=>0) ⟨#[],args,[]⟩).memory :=
 laidMetH_of_parts3 (fuel:=8) (laidMet_of_run' 8 (by kernel_rfl) (by kernel_rfl)) (by kernel_rfl) (by kernel_rfl)
set_option maxRecDepth 100000 in
theorem lifted (os:Os) (started:os.Started) (H:Type) (enc:TypeId×Value→H) :
 ReturnsInHanded {} Tryd.checked os 4 .any (fun w args=>(Rows.fnCoverDualitySpec.pre enc Tryd.prog Tryd.f4 [] false w args∧laidMetH Tryd.prog [("loop.example/g01917/impl.oneRational",Rows.laid_loop_example_g01917_impl_oneRational)] w)∧sizedMet enc Tryd.prog Tryd.f4 (OpenSpec.ofChange Rows.fnCoverDualitySpec) false w args) (Rows.fnCoverDualitySpec.post enc Tryd.prog Tryd.f4 false true false false):=by
 refine returnsInHanded_of_change_and (C:=Tryd.checked) (X:=fun w _=>laidMetH Tryd.prog [("loop.example/g01917/impl.oneRational",Rows.laid_loop_example_g01917_impl_oneRational)] w) (fun _ _ _ hh h=>h.of_heap hh) own started (by kernel_rfl) Tryd.func4
  (ChangeSpec.witness_shaped (enc:=enc) (C:=Tryd.checked) (os:=os) (X:=fun w _=>laidMetH Tryd.prog [("loop.example/g01917/impl.oneRational",Rows.laid_loop_example_g01917_impl_oneRational)] w) false (World.doorLaid Tryd.prog 400 os) #[.slice none 0 0] 8 rfl (World.shaped_of_RefB (by kernel_rfl) (by kernel_rfl)) (by kernel_rfl) (by kernel_rfl) (by kernel_rfl) (door_met os _)) ?_
 intro W base args ds gs before hval0 hW _ _ hL _
 have hval:∀ (j:Nat) t v,Tryd.f4.params[j]? = some t→args[j]? = some v→Value.okWide Tryd.prog W .any base t v:=hval0
 have hW':=hW
 obtain ⟨p,q,hA0,hV,rfl,hfz,hnd⟩:=hW
 have hA:DataW.TrodAll enc Tryd.prog W 0 (fun _=>true) true Tryd.f4.params.toList args.toList ds p:=hA0
 rw [Tryd.params4] at hA hval
 obtain ⟨v0,vs0,d0,ds0,p0,q0,hargs,rfl,rfl,h0,r0⟩:=trodAll_cons hA
 obtain ⟨rfl,rfl,rfl⟩:=trodAll_nil r0
 obtain rfl:args = #[v0]:=by cases args;simp_all
 have hV':=hV
 obtain ⟨gV,tV,csV,fV,dV,pV,rfl,_,_,_,_,rfl⟩:=trodVars_one hV
 obtain ⟨a0,n0,c0,rfl⟩:=okWide_slice Tryd.underlying22 (hval 0 22 v0 rfl rfl)
 have k0:=h0
 have lt0:∀ x∈p0,x.block<W.heap.size:=by obtain ⟨m,hm⟩:=k0;exact DataW.trod_lt m _ _ _ hm
 obtain ⟨xs0,hI0⟩:∃ xs,BytesA false 0 W.heap.size W a0 n0 c0 xs:=by
  obtain ⟨fuel,hf⟩:=h0
  obtain ⟨a',n',c',xs,hcs,hI⟩:=reads_bytes enc W fuel _ _ hf
  simp only [Value.cells,List.cons.injEq,Value.slice.injEq,and_true] at hcs
  obtain ⟨rfl,rfl,rfl⟩:=hcs
  exact ⟨xs,hI⟩
 clear hA0 hval0
 refine (law_FnCoverDuality a0 n0 c0 xs0 W hI0 (of_laid hL)).mono fun e W' ⟨he,bel⟩=>?_
 subst he
 exact ⟨_,rfl,_,_,_,[],_,_,hW',trodAll_mk1 (shut_bool Tryd.underlying4 _),(trodAll_cons_mk (Below.trod laidOut (by kernel_rfl) (of_decide_eq_true (by kernel_rfl)) k0 bel lt0) trodAll_mk0),Below.trodVars laidOut bel (by kernel_rfl) hV',bel.frame _,fun h=>by cases h⟩
theorem over:Rows.fnCoverDualityRow.holds Tryd.pinned (OpenSpec.ofChange Rows.fnCoverDualitySpec) :=
 OpenClaim.holds_of_wide 4 Tryd.f4 rfl rfl rfl rfl rfl rfl rfl ⟨rfl,rfl,rfl,rfl,rfl⟩ rfl rfl rfl rfl rfl (by kernel_rfl) Tryd.func4 (by kernel_rfl)
  (of_decide_eq_true (by kernel_rfl)) (by unfold Func.isWrapper;first | (rw [if_pos (by decide +kernel)];kernel_rfl) | (rw [if_neg (by decide +kernel)];exact ⟨rfl,rfl⟩))
  (fun os started H enc _=>lifted os started H enc)
theorem proved:Rows.FnCoverDualityCardSaid :=
 Claim7.holds_tied_plain_at .later [] [.data] true (true,"6c7b48c1a3076f214673f459701c3453f3ee3af4f938afd4b7bede56a453e71f") false
  over (fun _ h=>by cases h) (by kernel_rfl) (fun _ h=>by cases h) fnCoverDuality_row_tie rfl ⟨rfl,rfl⟩ (by kernel_rfl) rfl
  (fun f fn hf hfn=>by
   obtain rfl:f=4:=Option.some.inj ((show Tryd.prog.funcNamed "loop.example/g01917/laws.FnCoverDuality" = some 4 by kernel_rfl).symm.trans hf) |>.symm
   obtain rfl:fn=Tryd.f4:=(Option.some.inj (Tryd.func4.symm.trans hfn)).symm
   exact ⟨by kernel_rfl,fun j t ht=>by
    rw [Tryd.params4] at ht
    have hm:t∈[22]:=by simpa using Array.mem_of_getElem? ht
    have hall:([22].all fun u=>!Tryd.prog.wantsStandIn u)=true:=by kernel_rfl
    exact (show Tryd.prog.wantsStandIn t=false by simpa using List.all_eq_true.1 hall t hm)⟩)
  (by kernel_rfl)
#print axioms proved
end Go.Proofs.YtkohkoiegmcghaaDoor.fnCoverDuality
