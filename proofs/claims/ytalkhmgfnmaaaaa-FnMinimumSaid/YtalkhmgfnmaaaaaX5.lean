/- Lemmas for the proof of FnMinimum, part 47 of 52: no condition of their own. -/
import Derived.Test.YtalkhmgfnmaaaaaZD
namespace Go.Proofs.Ytalkhmgfnmaaaaa
set_option linter.unusedSimpArgs false
set_option linter.unusedVariables false
open Go.RowKit
theorem RelG.obm {X:Cx} {G:Gh} {s:AS} {a:Act} {w:World} {q:Nat} {l l':List AV} (h:RelG X G s a w) (hq:s.ob q=some l) (h2:∀ us,CVs G w l us→CVs G w l' us):RelG X G (s.setOb q (some l')) a w:=by
  have hs:∀ o,(s.setOb q (some l')).ob o ≠ none→s.ob o ≠ none:=fun o ho e=>by
    by_cases eo:o=q
    · subst eo;rw [hq] at e;cases e
    · exact ho (by simp [AS.setOb,eo,e])
  refine ⟨h.fr,h.df,h.n,h.tm,h.bf,fun o l2 ho=>?_,h.cs,h.d1,fun o o' a1 a2=>h.d2 o o' (hs o a1) (hs o' a2),fun o g a1=>h.d3 o g (hs o a1),fun o a1=>h.ow o (hs o a1),h.lc,h.nl,fun i a1=>h.ln i (hs _ a1),h.c0,h.uf⟩
  simp only [AS.setOb] at ho
  split at ho
  · rename_i e
    subst e
    cases ho
    obtain ⟨g1,g2,us,g3,g4,g5⟩:=h.ob _ l hq
    exact ⟨g1,g2,us,h2 us g3,g4,g5⟩
  · exact h.ob o l2 ho
theorem cvs_set {G:Gh} {w:World} {x y:AV} (hxy:∀ v,CV G w x v→CV G w y v):∀ {l:List AV} {us:List Value} {i:Nat},l[i]? = some x→CVs G w l us→CVs G w (l.set i y) us
  | [],us,i,h,_=>by simp at h
  | z :: l,us,i,h,hc=>by
    obtain ⟨v,us',rfl,h1,h2⟩:=hc
    cases i with
    | zero=>simp at h;subst h;exact ⟨v,us',rfl,hxy v h1,h2⟩
    | succ i=>exact ⟨v,us',rfl,h1,cvs_set hxy (by simpa using h) h2⟩
theorem awp_nilbufO {P:Cx→Prop} {N:Nat} {Q:Exit→AS→Prop} {s:AS} {c:Code} (q i g:Nat) (T:TypeId) (k:Nat) {l:List AV} (hq:s.ob q=some l) (hi:l[i]? = some .nil)
    (h:AWp P N c Q ((s.newB g).setOb q (some ((scrubs (fun g'=>!(g' == g)) (fun _=>true) l).set i (.buf g T k []))))):AWp P N c Q s:=by
  intro X a w hN hP ⟨G,hr⟩
  have hset:=hr.setBuf (w':=w) (g:=g) (T:=T) (k:=k) (World.grownBy.refl w _) (fun _ _ _ _=>rfl) (fun b j hb' hc=>by obtain ⟨a9,n9,c9,vs9,q1,q2,q3⟩:=hr.bf g;exact hr.uf b j hc (q2.1.lt b (by rw [← q1];exact hb')).1) (ownF_nil T k w X.w0.heap.size) (fun b hb=>by cases hb) (fun _ _=>False) (fun _ _ h=>h.elim) (fun b i hb=>by cases hb)
  refine h X a w hN hP ⟨_,RelG.obm hset (l:=scrubs (fun g'=>!(g' == g)) (fun _=>true) l) ?_ ?_⟩
  · show (s.ob q).map (List.map (scrub (fun g'=>!(g' == g)) (fun _=>true)))=_
    rw [hq,Option.map_some,scrubs_map]
  · intro us hu
    refine cvs_set (x:=.nil) (fun v hv=>?_) ?_ hu
    · simp only [CV] at hv
      subst hv
      exact ⟨by simp,by simp,by simp,cx_whnil _ _ _⟩
    · rw [scrubs_map,List.getElem?_map,hi];rfl
end Go.Proofs.Ytalkhmgfnmaaaaa
