/- Lemmas for the proof of FnMinimum, part 46 of 52: no condition of their own. -/
import Derived.Test.YtalkhmgfnmaaaaaD1
namespace Go.Proofs.Ytalkhmgfnmaaaaa
set_option linter.unusedSimpArgs false
set_option linter.unusedVariables false
attribute [local go_sem ↓] reduceIte
attribute [local go_sem] Nat.reduceEqDiff Nat.reduceLT Nat.reduceAdd Nat.reduceLeDiff Nat.reduceMul Nat.reduceBEq Nat.reduceSub reduceCtorEq Int.reduceLE Int.reduceNeg Int.reduceLT
open Go.RowKit
theorem LStep.weak {P:Cx→Prop} {N:Nat} {o:Oper} {s s0:AS} {K:AS→Prop} (h:SLe s s0) (hl:LStep P N o s0 K):LStep P N o s K:=fun X G a w hN hP hr=>by
  obtain ⟨G',hr'⟩:=Rel.weak h ⟨G,hr⟩
  exact hl X G' a w hN hP hr'
theorem ssim_tm {e:Pk} {s s':AS} {x:AV} (t:Nat) (h:SSim e s s') (hx:s.tm t=x):ASim e x (s'.tm t):=hx ▸ h.1 t
theorem ssim_ob {e:Pk} {s s':AS} {l:List AV} (q:Nat) (h:SSim e s s') (hq:s.ob q=some l):∃ l',s'.ob q=some l'∧ASims e l l':=by
  rcases h.2 q with ⟨h1,_⟩ | ⟨l0,l',h1,h2,h3⟩
  · rw [hq] at h1;cases h1
  · rw [hq] at h1;cases h1;exact ⟨l',h2,h3⟩
theorem csims_bytes {e:Pk}:∀ {l:List Int} {m:List DV},CSims e (l.map .byte) m→m=l.map .byte
  | [],m,h=>by obtain rfl:=h;rfl
  | x :: l,m,h=>by
    obtain ⟨_,m',rfl,rfl,h2⟩:=h
    rw [csims_bytes h2];rfl
theorem cur_sim {e:Pk} {l:List AV} (h:ASims e curL l):ALes l curL:=by
  obtain ⟨_,_,rfl,rfl,_,_,rfl,rfl,_,_,rfl,rfl,rfl⟩:=h
  refine .cons (.anyP ?_) (.cons (.anyP ?_) (.cons (.anyP ?_) .nil))
  · rintro y ⟨x,⟨l,rfl⟩,l',rfl,h⟩
    exact ⟨l,by rw [csims_bytes h]⟩
  · rintro y ⟨x,⟨n,hn,rfl⟩,rfl⟩
    exact ⟨n,hn,rfl⟩
  · rintro y ⟨x,⟨n,rfl⟩,rfl⟩
    exact ⟨n,rfl⟩
theorem nod_args:∀ x∈[AV.ptr 0 0],NoD x:=by
  intro x hx
  simp only [List.mem_singleton] at hx
  subst hx
  exact nod_ptr 0 0
theorem nod_cur:∀ l∈[curL],∀ x∈l,NoD x:=by
  intro l hl x hx
  simp only [List.mem_singleton] at hl
  subst hl
  simp only [curL,List.mem_cons,List.not_mem_nil,or_false] at hx
  rcases hx with rfl | rfl | rfl
  · exact nod_anyB fun x h=>h
  · exact nod_anyI fun x ⟨n,_,e⟩=>⟨n,e⟩
  · exact nod_anyI fun x h=>h
end Go.Proofs.Ytalkhmgfnmaaaaa
