/- Lemmas for the proof of FnExactMaximize, part 39 of 56: no condition of their own. -/
import Derived.Test.YtpbclpopoodklaaSI
namespace Go.Proofs.Ytpbclpopoodklaa
set_option linter.unusedSimpArgs false
set_option linter.unusedVariables false
open Go.RowKit
def subS (keep:List Nat) (D:List (Nat×DV)) (s:AS):AS:=⟨fun t=>match D.lookup t with
  | some x=>.d x
  | none=>if keep.contains t=true then s.tm t else .junk,s.ob⟩
structure SubX (X X':Cx) (G:Gh) (w:World):Prop where
  w0:X'.w0=w
  L:∀ b,¬ X'.L b
  C0:∀ b i,X'.C0 b i↔G.C b i
  N:X'.N=X.N
theorem rel_bareX {X:Cx} {G:Gh} {s s0:AS} {a:Act} {w:World} (h:RelG X G s a w) (hs:∀ t,s0.tm t=.cst (a.tmps.getD t undef)∨ALe (scrub (fun _=>false) (fun _=>false) (s.tm t)) (s0.tm t)) (hob:∀ o,s0.ob o=none):∃ X':Cx,SubX X X' G w∧Rel X' s0 a w:=by
  let G':Gh:=⟨G.C,fun _=>.slice none 0 0,fun _=>0,fun _=>0,G.ad⟩
  have hgle:GLe (fun _=>false) (fun _=>false) G G' w w:=⟨fun b i hc=>⟨hc,rfl⟩,fun _ h=>(by cases h),fun _ h=>(by cases h)⟩
  have hno:∀ o,s0.ob o ≠ none→False:=fun o ho=>ho (hob o)
  refine ⟨⟨w,fun _=>False,G.C,X.N,fun _=>0,fun _ h=>h.elim,h.cs⟩,⟨rfl,fun _ h=>h,fun _ _=>Iff.rfl,rfl⟩,G',⟨rfl,rfl,rfl,Nat.le_refl _,fun _ _ _=>rfl⟩,h.df,h.n,fun t ht=>?_,fun g=>⟨none,0,0,[],rfl,ownF_nil _ _ _ _,fun b hb=>by cases hb⟩,fun o l ho=>(by rw [hob] at ho;cases ho),h.cs,fun g g' _ _=>rfl,fun o o' ho=>(hno o ho).elim,fun o g ho=>(hno o ho).elim,fun o ho=>(hno o ho).elim,fun b i hc _=>hc,fun b i _ hl=>hl,fun i ho=>(hno _ ho).elim,fun b i hc=>hc,fun b i hc hz=>?_⟩
  · rcases hs t with e | e
    · rw [e];rfl
    · exact e.cv (CV.scrub hgle _ _ (h.tm t ht))
  · have h1:=h.cs b i hc
    have h2:w.heap.size≤b:=hz
    omega
theorem rel_sub {X X':Cx} {G G2:Gh} {s s3:AS} {a a3:Act} {w w3:World} {keep:List Nat} {D:List (Nat×DV)} (hr:RelG X G s a w) (hX:SubX X X' G w) (h2:RelG X' G2 s3 a3 w3) (hk:∀ t∈keep,s3.tm t=.cst (a.tmps.getD t undef)) (hD:∀ p∈D,s3.tm p.1=.d p.2):Rel X (subS keep D s) a3 w3:=by
  have hblk:∀ b,b<w.heap.size→w3.heap[b]? = w.heap[b]?:=fun b hb=>by
    have:=h2.fr.block b (by rw [hX.w0];exact hb) (hX.L b)
    rw [hX.w0] at this;exact this
  have hfr:=h2.fr
  rw [hX.w0] at hfr
  have hsz:=hfr.size
  have hst:Stay G.C G2.C w w3:=fun b i hc=>⟨h2.c0 b i ((hX.C0 b i).2 hc),World.cell?_of_block (w:=w) (hblk b (hr.cs b i hc))⟩
  have hlc:∀ b i,G2.C b i→b<w.heap.size→G.C b i:=fun b i hc hb=>(hX.C0 b i).1 (h2.lc b i hc (by rw [hX.w0];exact hb))
  let G3:Gh:=⟨G2.C,G.hd,G.hT,G.hk,G.ad⟩
  have hgle:GLe (fun _=>true) (fun _=>true) G G3 w w3:=⟨hst,fun _ _=>⟨rfl,rfl,rfl⟩,fun _ _=>rfl⟩
  refine ⟨G3,⟨hfr.os.trans hr.fr.os,hfr.tape.trans hr.fr.tape,hfr.output.trans hr.fr.output,Nat.le_trans hr.fr.size hsz,fun b hb hl=>(hblk b (Nat.lt_of_lt_of_le hb hr.fr.size)).trans (hr.fr.block b hb hl)⟩,h2.df,by rw [h2.n,hX.N],fun t ht=>?_,fun g=>?_,fun q l hq=>?_,h2.cs,hr.d1,hr.d2,hr.d3,hr.ow,fun b i hc hb=>hr.lc b i (hlc b i hc (Nat.lt_of_lt_of_le hb hr.fr.size)) hb,fun b i hc hl=>?_,hr.ln,fun b i hc=>(hst b i (hr.c0 b i hc)).1,fun b i hc hz=>?_⟩
  · show CV G3 w3 (match D.lookup t with | some x=>.d x | none=>if keep.contains t=true then s.tm t else .junk) _
    cases hl:D.lookup t with
    | some x =>
      have hm:(t,x)∈D:=by
        clear hD
        induction D with
        | nil=>cases hl
        | cons p D ih =>
          simp only [List.lookup] at hl
          split at hl
          · rename_i e
            have:t=p.1:=by simpa using e
            cases hl
            rw [this]
            exact List.mem_cons_self ..
          · exact List.mem_cons_of_mem _ (ih hl)
      have h3:=h2.tm t (by rw [hX.N];exact ht)
      rw [hD _ hm] at h3
      obtain ⟨us,q1,q2⟩:=h3
      exact ⟨us,q1,q2⟩
    | none =>
      simp only
      by_cases e:keep.contains t=true
      · rw [if_pos e]
        have h3:=h2.tm t (by rw [hX.N];exact ht)
        rw [hk t (by simpa using e)] at h3
        have h3:a3.tmps.getD t undef=a.tmps.getD t undef:=h3
        rw [h3]
        exact (hr.tm t ht).keep hgle
      · rw [if_neg e];trivial
  · obtain ⟨a9,n9,c9,vs9,q1,q2,q3⟩:=hr.bf g
    have hb9:∀ b,a9=some ⟨b,0,none⟩→b<w.heap.size:=fun b hb=>(q2.1.lt b (by rw [hb];rfl)).2
    refine ⟨a9,n9,c9,vs9,q1,⟨⟨q2.1.1,?_⟩,q2.2⟩,fun b hb o=>⟨fun hc=>(q3 b hb o).1 (hlc b o hc (hb9 b hb)),fun hc=>(hst b o ((q3 b hb o).2 hc)).1⟩⟩
    rcases q2.1.2 with p1 | ⟨g0,cap,cur,p1,p2,p3,p4⟩
    · exact .inl p1
    · refine .inr ⟨g0,cap,cur,p1,p2,?_,p4⟩
      rw [hblk g0 (Array.getElem?_eq_some_iff.1 p3).1]
      exact p3
  · obtain ⟨g1,g2,us,g3,g4,g5⟩:=hr.ob q l hq
    refine ⟨Nat.lt_of_lt_of_le g1 hsz,fun i hc=>g2 i (hlc _ i hc g1),us,g3.keep hgle,g4,fun i u hu=>?_⟩
    show w3.cell? ⟨G.ad q,i,none⟩=_∧w3.frozen? ⟨G.ad q,i,none⟩=_
    rw [World.cell?_of_block (w:=w) (hblk _ g1),World.frozen?_of_block (w:=w) (hblk _ g1)]
    exact g5 i u hu
  · have hb:=X.hL b hl
    exact hr.nl b i (hlc b i hc (Nat.lt_of_lt_of_le hb hr.fr.size)) hl
  · have hz:X.w0.heap.size≤b:=hz
    by_cases e:b<w.heap.size
    · rw [World.frozen?_of_block (w:=w) (hblk b e)]
      exact hr.uf b i (hlc b i hc e) hz
    · exact h2.uf b i hc (by rw [hX.w0];omega)
theorem awp_sub3 {P:Cx→Prop} {N:Nat} {Q:Exit→AS→Prop} {s:AS} {x y z rest:Code} (keep:List Nat) (s0:(Nat→Value)→AS) (hs0:∀ vs t,(s0 vs).tm t=.cst (vs t)∨ALe (scrub (fun _=>false) (fun _=>false) (s.tm t)) ((s0 vs).tm t)) (hob:∀ vs o,(s0 vs).ob o=none)
    (h:∀ vs:Nat→Value,AWp (fun _=>True) N x (thenA (fun s1=>AWp (fun _=>True) N y (thenA (fun s2=>AWp (fun _=>True) N z (thenA (fun s3=>∀ (X':Cx) (G':Gh) (a':Act) (w':World),RelG X' G' s3 a' w'→∃ G4 s4,RelG X' G4 s4 a' w'∧(∀ t∈keep,s4.tm t=.cst (vs t))∧∃ D:List (Nat×DV),(∀ p∈D,s4.tm p.1=.d p.2)∧AWp P N rest Q (subS keep D s)) (fun _ _=>False)) s2) (fun _ _=>False)) s1) (fun _ _=>False)) (s0 vs)):AWp P N (.seq x (.seq y (.seq z rest))) Q s:=by
  intro X a w hN hP ⟨G,hr⟩
  obtain ⟨X',hX,hr'⟩:=rel_bareX (s0:=s0 fun t=>a.tmps.getD t undef) hr (hs0 _) (hob _)
  refine wp_seq (wp_mono (h (fun t=>a.tmps.getD t undef) X' a w (by rw [hX.N];exact hN) trivial hr') ?_)
  rintro e a1 w1 ⟨s1,h1,hr1⟩
  cases e with
  | normal =>
    refine wp_seq (wp_mono (h1 X' a1 w1 (by rw [hX.N];exact hN) trivial hr1) ?_)
    rintro e a2 w2 ⟨s2,h2,hr2⟩
    cases e with
    | normal =>
      refine wp_seq (wp_mono (h2 X' a2 w2 (by rw [hX.N];exact hN) trivial hr2) ?_)
      rintro e a3 w3 ⟨s3,h3,G3,hr3⟩
      cases e with
      | normal =>
        obtain ⟨G4,s4,hr4,hk,D,hD,hq⟩:=h3 X' G3 a3 w3 hr3
        exact hq X a3 w3 hN hP (rel_sub hr hX hr4 hk hD)
      | _=>exact h3.elim
    | _=>exact h2.elim
  | _=>exact h1.elim
theorem lkT_sub {s:AS} {vs:Nat→Value}:∀ (tl:List (Nat×AV)),(∀ p∈tl,p.2=.cst (vs p.1)∨ALe (scrub (fun _=>false) (fun _=>false) (s.tm p.1)) p.2)→∀ t,lkT tl t=.cst (vs t)∨ALe (scrub (fun _=>false) (fun _=>false) (s.tm t)) (lkT tl t)
  | [],_,t=>.inr (.junk _)
  | p :: tl,h,t=>by
    simp only [lkT]
    by_cases e:t=p.1
    · rw [if_pos e,e];exact h p (List.mem_cons_self ..)
    · rw [if_neg e];exact lkT_sub tl (fun q hq=>h q (List.mem_cons_of_mem _ hq)) t
end Go.Proofs.Ytpbclpopoodklaa
