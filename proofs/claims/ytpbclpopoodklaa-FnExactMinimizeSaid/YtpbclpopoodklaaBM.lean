/- Lemmas for the proof of FnExactMaximize, part 51 of 56: no condition of their own. -/
import Derived.Test.YtpbclpopoodklaaBC
import Derived.Test.YtpbclpopoodklaaRMk
import Derived.Test.YtpbclpopoodklaaSY
import Derived.Test.YtpbclpopoodklaaK1
namespace Go.Proofs.Ytpbclpopoodklaa
set_option linter.unusedSimpArgs false
set_option linter.unusedVariables false
open Go.RowKit
section
variable {C:Nat→Nat→Prop} {fz:Bool} {lo hi:Nat} {w:World} {a:Option Addr} {n c:Nat}
theorem rats_cxc {xs:List RatD} (h:RatsA fz lo hi w a n c xs) (hC:∀ b i,lo≤b→b<hi→w.cell? ⟨b,i,none⟩ ≠ none→C b i):CX C w (ratsD xs) [.slice a n c]:=by
  have h0:=rats_cx (C:=fun b i=>lo≤b∧b<hi) h (fun b i h1 h2=>⟨h1,h2⟩)
  obtain ⟨a,n,c,vs,e,h2,h3,h4,h5,h6,h7,h8,h9⟩:=h0
  simp only [List.cons.injEq,Value.slice.injEq,and_true] at e
  obtain ⟨rfl,rfl,rfl⟩:=e
  have hk:∀ (xs:List RatD) (us:List Value),CXk (fun b i=>lo≤b∧b<hi) w 2 (xs.map ratDV) us→CXk C w 2 (xs.map ratDV) us:=by
    intro xs
    induction xs with
    | nil=>intro us h;exact h
    | cons x xs ih =>
      intro us h
      obtain ⟨u,v,rfl,g1,g2,g3⟩:=h
      exact ⟨u,v,rfl,cxs_two.2 (cxs_two.1 g1),g2,ih _ g3⟩
  refine ⟨_,_,_,vs,rfl,h2,hk _ _ h3,h4,h5,h6,h7,h8,fun hn=>?_⟩
  obtain ⟨b,off,ha,hc⟩:=h9 hn
  exact ⟨b,off,ha,fun i u hu=>⟨hC b _ (hc i u hu).1.1 (hc i u hu).1.2 (by rw [(hc i u hu).2];exact fun x=>(by cases x)),(hc i u hu).2⟩⟩
theorem mat_cxc {xss:List (List RatD)} (h:MatA fz lo hi w a n c xss) (hC:∀ b i,lo≤b→b<hi→w.cell? ⟨b,i,none⟩ ≠ none→C b i):CX C w (matD xss) [.slice a n c]:=by
  have hl:=h.len
  by_cases hn:0<n
  · obtain ⟨b,off,rfl⟩:=matSome h hn
    have hex:∃ f:Nat→Value,∀ i,i<n→(∃ ra rn rc,f i=.slice ra rn rc∧RatsA fz lo hi w ra rn rc (mx xss i))∧w.cell? ⟨b,off+i,none⟩=some (f i):=by
      refine ⟨fun i=>(w.cell? ⟨b,off+i,none⟩).getD undef,fun i hi=>?_⟩
      obtain ⟨_,_,ra,rn,rc,g1,g2,_⟩:=matAt h hi
      exact ⟨⟨ra,rn,rc,by simp only [g1];rfl,g2⟩,by simp only [g1];rfl⟩
    obtain ⟨f,hf⟩:=hex
    refine ⟨_,n,c,(List.range n).map f,rfl,by simpa using hl,CXk.singles.2 ⟨by simp [hl],fun i x hx=>?_⟩,by simp,h.2.1,h.2.2.1,h.2.2.2.2,fun u hu=>?_,fun _=>⟨b,off,rfl,fun i u hu=>?_⟩⟩
    · rw [List.getElem?_map] at hx
      cases e:xss[i]? with
      | none=>rw [e] at hx;cases hx
      | some y =>
        rw [e] at hx;cases hx
        have hi:i<xss.length:=(List.getElem?_eq_some_iff.1 e).1
        obtain ⟨⟨ra,rn,rc,g1,g2⟩,_⟩:=hf i (by omega)
        have hy:mx xss i=y:=by simp [mx,List.getD,e]
        exact ⟨f i,by simp [show i<n by omega],by rw [g1,← hy];exact rats_cxc g2 hC⟩
    · obtain ⟨i,hi,rfl⟩:=List.mem_map.1 hu
      obtain ⟨⟨ra,rn,rc,g1,_⟩,_⟩:=hf i (by simpa using hi)
      rw [g1];rfl
    · have hi:i<n:=by have:=(List.getElem?_eq_some_iff.1 hu).1;simpa using this
      simp [hi] at hu
      subst hu
      obtain ⟨⟨ra,rn,rc,g1,_⟩,g2⟩:=hf i hi
      obtain ⟨p1,p2,_⟩:=matAt h hi
      exact ⟨hC _ _ p1 p2 (by rw [g2];exact fun x=>(by cases x)),g2⟩
  · obtain rfl:n=0:=by omega
    obtain rfl:=List.eq_nil_of_length_eq_zero hl
    exact ⟨a,0,c,[],rfl,rfl,rfl,by simp,h.2.1,h.2.2.1,h.2.2.2.2,fun u hu=>(by cases hu),fun h=>absurd h (Nat.lt_irrefl 0)⟩
theorem lp_cvs {lo':Nat} {xs:List (List RatD)} {ba ca:Option Addr} {bn bc cn cc:Nat} {bs cs:List RatD} (h:LPA fz lo hi w a n c xs ba bn bc bs ca cn cc cs) (hh:hi≤w.heap.size) (hl:lo'≤lo) (G:Gh) (hG:G.C=cellsC lo' w):CV G w (.d (lpD xs bs cs)) (lpVal a n c ba bn bc ca cn cc):=by
  have hC:∀ b i,lo≤b→b<hi→w.cell? ⟨b,i,none⟩ ≠ none→G.C b i:=fun b i h1 h2 h3=>by rw [hG];exact ⟨by omega,by omega,h3⟩
  exact cvAgg.2 ⟨[.slice a n c,.slice ba bn bc,.slice ca cn cc],⟨[.slice a n c],_,rfl,mat_cxc h.1 hC,[.slice ba bn bc],_,rfl,rats_cxc h.2.1 hC,[.slice ca cn cc],[],rfl,rats_cxc h.2.2 hC,rfl⟩,rfl⟩
theorem cxk_rats:∀ {xs:List RatD} {us:List Value},CXk C w 2 (xs.map ratDV) us→us=flatR xs∧∀ i,i<xs.length→I64 (qx xs i).num∧I64 (qx xs i).den
  | [],us,h=>⟨h,fun i hi=>absurd hi (Nat.not_lt_zero _)⟩
  | x :: xs,us,h=>by
    obtain ⟨u,v,rfl,g1,g2,g3⟩:=h
    obtain ⟨e,i1,i2⟩:=cxs_two.1 g1
    obtain ⟨e2,h2⟩:=cxk_rats g3
    subst e;subst e2
    refine ⟨rfl,fun i hi=>?_⟩
    cases i with
    | zero=>exact ⟨i1,i2⟩
    | succ i=>exact h2 i (by simpa using hi)
theorem ratsMk0 {xs:List RatD} (hl:xs.length=n) (hnc:n≤c) (hcm:c≤maxLen) (ha:a=none→c=0) (hI:∀ i,i<xs.length→I64 (qx xs i).num∧I64 (qx xs i).den)
    (h:0<n→∃ b off,a=some ⟨b,off,none⟩∧lo≤b∧b<hi∧∀ i u,(flatR xs)[i]? = some u→w.cell? ⟨b,off+i,none⟩=some u∧(fz=true→w.frozen? ⟨b,off+i,none⟩=false)):RatsA fz lo hi w a n c xs:=by
  by_cases hn:0<n
  · obtain ⟨b,off,rfl,h1,h2,h3⟩:=h hn
    refine ratsMk hl hnc hcm h1 h2 fun i hi=>?_
    have f:=flatR_at (xs:=xs) (i:=i) (by omega)
    have g1:=h3 _ _ f.1
    have g2:=h3 _ _ f.2
    exact ⟨(hI i (by omega)).1,(hI i (by omega)).2,g1.1,g2.1,fun e=>⟨g1.2 e,g2.2 e⟩⟩
  · exact ⟨hl,hnc,hcm,fun h=>absurd h hn,ha⟩
theorem cx_ratsC {xs:List RatD} {us:List Value} (hC:∀ b i,C b i→lo≤b∧b<hi) (h:CX C w (ratsD xs) us):∃ a n c,us=[.slice a n c]∧RatsA false lo hi w a n c xs:=by
  obtain ⟨a,n,c,vs,rfl,h2,h3,h4,h5,h6,h7,h8,h9⟩:=h
  obtain ⟨rfl,hI⟩:=cxk_rats h3
  rw [List.length_map] at h2
  refine ⟨a,n,c,rfl,ratsMk0 h2 h5 h6 h7 hI fun hn=>?_⟩
  obtain ⟨b,off,ha,hc⟩:=h9 hn
  have f:=flatR_at (xs:=xs) (i:=0) (by omega)
  have hb:=hC b _ (hc _ _ f.1).1
  exact ⟨b,off,ha,hb.1,hb.2,fun i u hu=>⟨(hc i u hu).2,fun h=>(by cases h)⟩⟩
end
section
variable {fz:Bool} {lo hi B lo':Nat} {w w':World} {a:Option Addr} {n c:Nat} {xs:List (List RatD)}
end
theorem row_le {xs:List (List RatD)}:∀ {j i:Nat},i<j→(mx xs i).length≤mlens xs j
  | j+1,i,h=>by
    rcases Nat.lt_or_ge i j with h1 | h1
    · have:=row_le (xs:=xs) h1
      simp only [mlens];omega
    · obtain rfl:i=j:=by omega
      simp only [mlens];omega
section
variable {fz:Bool} {lo hi:Nat} {w:World} {a:Option Addr} {n c:Nat} {xs:List (List RatD)} {ba ca:Option Addr} {bn bc cn cc:Nat} {bs cs:List RatD}
theorem sz_lp (hs:szLP xs bs cs≤1048576):xs.length≤1048576∧(∀ i,i<xs.length→(mx xs i).length≤1048576)∧bs.length≤1048576∧cs.length≤1048576:=by
  unfold szLP matSz at hs
  refine ⟨by omega,fun i hi=>?_,by omega,by omega⟩
  have:=row_le (xs:=xs) hi
  omega
end
end Go.Proofs.Ytpbclpopoodklaa
