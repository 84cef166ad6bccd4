/- Lemmas for the proof of FnExactMaximize, part 52 of 56: no condition of their own. -/
import Derived.Test.YtpbclpopoodklaaTA
import Derived.Test.YtpbclpopoodklaaBM
namespace Go.Proofs.Ytpbclpopoodklaa
set_option linter.unusedSimpArgs false
set_option linter.unusedVariables false
open Go.RowKit
def GvRatR (lo:Nat) (w:World) (xs:List RatD) (v:RatD) (b:Bool) (e:Ending) (w':World):Prop:=∃ a n c,e=.returned (.tuple #[.slice a n c,ratV v.num v.den,.bool b])∧RatsA false lo w'.heap.size w' a n c xs∧Below w.heap.size w w'
def GvRatS (w:World) (xs:List RatD) (v:RatD) (b:Bool) (e:Ending) (w':World):Prop:=∃ a n c,e=.returned (.tuple #[.slice a n c,ratV v.num v.den,.bool b])∧RatsA true w.heap.size w'.heap.size w' a n c xs∧Below w.heap.size w w'
theorem cv_tup3 {G:Gh} {w:World} {x y z:AV} {v:Value} (h:CV G w (.tup [x,y,z]) v):∃ a b c,v=.tuple #[a,b,c]∧CV G w x a∧CV G w y b∧CV G w z c:=by
  obtain ⟨vs,rfl,a,us,rfl,h1,b,us',rfl,h2,c,us'',rfl,h3,rfl⟩:=h
  exact ⟨a,b,c,rfl,h1,h2,h3⟩
theorem rat_read {f:FuncId} {args:List AV} {b:BestS} {lo:Nat} {w:World} {vs:List Value} (hA:AFn f args [] (fun r os=>r=ansBS b∧os=[])) (hv:∀ G:Gh,G.C=cellsC lo w→CVs G w args vs) (hlw:lo≤w.heap.size) :
    Calls Try.prog f vs.toArray w (GvRatR lo w b.pt b.val b.found):=by
  refine (afn_calls hA (C0:=cellsC lo w) (fun b i h=>h.2.1) hv).mono ?_
  rintro e w' ⟨v,G',rfl,h1,hb,hcs,hlc,huf⟩
  have hC:∀ b i,G'.C b i→lo≤b∧b<w'.heap.size:=fun b i hc=>by
    refine ⟨?_,hcs b i hc⟩
    by_cases h:b<w.heap.size
    · exact (hlc b i hc h).1
    · omega
  obtain ⟨x,y,z,rfl,h2,h3,h4⟩:=cv_tup3 h1
  obtain ⟨a,n,c,e1,hR⟩:=cx_ratsC hC (cvSl.1 h2)
  simp only [List.cons.injEq,and_true] at e1
  subst e1
  obtain ⟨rfl,_⟩:=cv_ratS h3
  obtain rfl:=cvBool.1 h4
  exact ⟨a,n,c,rfl,hR,hb⟩
theorem rat_own {f:FuncId} {args:List AV} {b:BestS} {w:World} {vs:List Value} (hA:AFn f args [] (fun r os=>r=ansB b∧os=[])) (hv:∀ G:Gh,G.C=cellsC 0 w→CVs G w args vs) :
    Calls Try.prog f vs.toArray w (GvRatS w b.pt b.val b.found):=by
  refine (afn_calls hA (C0:=cellsC 0 w) (fun b i h=>h.2.1) hv).mono ?_
  rintro e w' ⟨v,G',rfl,h1,hb,hcs,hlc,huf⟩
  obtain ⟨x,y,z,rfl,h2,h3,h4⟩:=cv_tup3 h1
  obtain ⟨rfl,_⟩:=cv_ratS h3
  obtain rfl:=cvBool.1 h4
  obtain ⟨a,n,c,vs',e1,g2,g3,⟨f1,f2,f3,f4,f5,f6⟩,g5⟩:=cvWh.1 h2
  simp only [List.cons.injEq,and_true] at e1
  subst e1
  obtain ⟨rfl,hI⟩:=cxk_rats g3
  simp only [List.length_map] at g2
  refine ⟨a,n,c,rfl,ratsMk0 g2 f2 f3 f4 hI (fun hn=>?_),hb⟩
  obtain ⟨rb,roff,hra,hrc⟩:=f6 hn
  obtain ⟨rb',hra',N,hrt⟩:=g5 hn
  rw [hra] at hra'
  simp only [Option.some.injEq,Addr.mk.injEq,and_true] at hra'
  obtain ⟨rfl,rfl⟩:=hra'
  have hge:w.heap.size≤rb:=by
    by_cases h:rb<w.heap.size
    · exact absurd ⟨N,fun i hi=>hlc rb i (hrt i hi) h⟩ (no_tag (lo:=0) (w:=w) (b:=rb))
    · omega
  have c0:=hrc _ _ (flatR_at (xs:=b.pt) (i:=0) (by omega)).1
  exact ⟨rb,0,hra,hge,hcs rb _ c0.1,fun i u hu=>⟨(hrc i u hu).2,fun _=>huf rb _ (hrc i u hu).1 hge⟩⟩
def GvMarkRats (lo hi:Nat) (w:World) (k:Int) (a:Option Addr) (n c:Nat) (xs:List RatD) (e:Ending) (w':World):Prop:=e=.returned (.int .i64 (k+(xs.length*2:Nat)))∧MarkedG lo hi w w'∧RatsA true lo hi w' a n c (mkRats k xs.length)
theorem resK_Rats {lo hi:Nat} (a:Option Addr) (n c:Nat) (xs:List RatD) (k:Int) (w:World) (hI:RatsA true lo hi w a n c xs) (hh:hi≤w.heap.size) (h0:0≤k) (h1:k≤1048576) (hs:xs.length≤1048576) :
    Calls Try.prog 19 #[.slice a n c,.int .i64 k] w (GvMarkRats lo hi w k a n c xs):=by
  have hl:=hI.len
  refine (markRats a n c xs k w hI h0 (by omega) (by omega)).mono ?_
  rintro e w' ⟨h2,h3,h4⟩
  exact ⟨by rw [h2,← hl];congr 2;omega,.of_marked h3,by rw [hl];exact h4⟩
theorem heldK_Rats {fz:Bool} {lo hi:Nat} (a:Option Addr) (n c:Nat) (xs:List RatD) (k:Int) (w:World) (hI:RatsA fz lo hi w a n c (mkRats k xs.length)) (hh:hi≤w.heap.size) (h0:0≤k) (h1:k≤1048576) (hs:xs.length≤1048576) :
    Calls Try.prog 20 #[.slice a n c,.int .i64 k] w (Leaves w (.int .i64 (k+(xs.length*2:Nat)))):=by
  have hl:xs.length=n:=by rw [← mkRats_len k xs.length];exact hI.len
  subst hl
  have:=(heldRats a xs.length c k w hI h0 (by omega) hs).mono fun _ _ h=>h.leaves
  have e:k+((xs.length*2:Nat):Int)=k+2*(xs.length:Nat):=by omega
  rw [e]
  exact this
section
variable {fz:Bool} {lo hi:Nat} {w:World} {a:Option Addr} {n c:Nat} {xs:List (List RatD)} {ba ca:Option Addr} {bn bc cn cc:Nat} {bs cs:List RatD}
theorem specMin (h:LPA fz lo hi w a n c xs ba bn bc bs ca cn cc cs) (hh:hi≤w.heap.size) (hlw:lo≤w.heap.size) (hs:szLP xs bs cs≤1048576):Calls Try.prog 15 #[lpVal a n c ba bn bc ca cn cc] w (GvRatR lo w (mnF xs bs cs).pt (mnF xs bs cs).val (mnF xs bs cs).found):=by
  obtain ⟨h1,h2,h3,h4⟩:=sz_lp hs
  exact rat_read (specMinA xs bs cs h1 h3 h4) (vs:=[lpVal a n c ba bn bc ca cn cc]) (fun G hG=>⟨_,_,rfl,lp_cvs h hh (Nat.le_refl _) G hG,rfl⟩) hlw
theorem implMin (h:LPA fz lo hi w a n c xs ba bn bc bs ca cn cc cs) (hh:hi≤w.heap.size) (hs:szLP xs bs cs≤1048576):Calls Try.prog 16 #[lpVal a n c ba bn bc ca cn cc] w (GvRatS w (mnF xs bs cs).pt (mnF xs bs cs).val (mnF xs bs cs).found):=by
  obtain ⟨h1,h2,h3,h4⟩:=sz_lp hs
  exact rat_own (implMinA xs bs cs h1 h2 h3 h4) (vs:=[lpVal a n c ba bn bc ca cn cc]) (fun G hG=>⟨_,_,rfl,lp_cvs h hh (Nat.zero_le _) G hG,rfl⟩)
end
end Go.Proofs.Ytpbclpopoodklaa
