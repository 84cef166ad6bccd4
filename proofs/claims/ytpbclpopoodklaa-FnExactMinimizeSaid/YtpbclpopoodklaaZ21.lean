/- Lemmas for the proof of FnExactMaximize, part 19 of 56: no condition of their own. -/
import Derived.Test.YtpbclpopoodklaaZD
import Derived.Test.YtpbclpopoodklaaR6
namespace Go.Proofs.Ytpbclpopoodklaa
set_option linter.unusedSimpArgs false
set_option linter.unusedVariables false
open Go.RowKit
def ratDV (x:RatD):DV:=.agg [.int x.num,.int x.den]
abbrev ratsD (xs:List RatD):DV:=.sl 2 (xs.map ratDV)
theorem cxs_two {C:Nat→Nat→Prop} {w:World} {x y:Int} {us:List Value}:CXs C w [.int x,.int y] us↔us=[.int .i64 x,.int .i64 y]∧I64 x∧I64 y:=by
  constructor
  · rintro ⟨u,t,rfl,⟨rfl,h1⟩,u2,t2,rfl,⟨rfl,h2⟩,rfl⟩;exact ⟨rfl,h1,h2⟩
  · rintro ⟨rfl,h1,h2⟩;exact ⟨[.int .i64 x],_,rfl,⟨rfl,h1⟩,[.int .i64 y],[],rfl,⟨rfl,h2⟩,rfl⟩
theorem rats_cx {C:Nat→Nat→Prop} {fz:Bool} {lo hi:Nat} {w:World} {a:Option Addr} {n c:Nat} {xs:List RatD} (h:RatsA fz lo hi w a n c xs) (hC:∀ b i,lo≤b→b<hi→C b i):CX C w (ratsD xs) [.slice a n c]:=by
  have hI:∀ i,i<n→I64 (qx xs i).num∧I64 (qx xs i).den:=fun i hi=>ratsI64 h hi
  have h1:=h.len
  have hk:∀ xs:List RatD,(∀ i,i<xs.length→I64 (qx xs i).num∧I64 (qx xs i).den)→CXk C w 2 (xs.map ratDV) (flatR xs):=by
    intro xs
    induction xs with
    | nil=>intro _;rfl
    | cons x xs ih =>
      intro hh
      have h0:=hh 0 (by simp)
      exact ⟨[.int .i64 x.num,.int .i64 x.den],flatR xs,rfl,cxs_two.2 ⟨rfl,h0⟩,rfl,ih fun i hi=>by simpa [qx] using hh (i+1) (by simpa using hi)⟩
  refine ⟨a,n,c,flatR xs,rfl,by simpa using h1,hk xs (fun i hi=>hI i (by omega)),by rw [flatR_len,h1],h.2.1,h.2.2.1,h.2.2.2.2,flatR_one xs,fun hn=>?_⟩
  obtain ⟨b,off,rfl⟩:=ratsSome h hn
  refine ⟨b,off,rfl,fun i u hu=>?_⟩
  have hi:i<xs.length*2:=by have:=(List.getElem?_eq_some_iff.1 hu).1;rwa [flatR_len] at this
  have g:=ratsAt h (show i / 2<n by omega)
  refine ⟨hC _ _ g.1 g.2.1,?_⟩
  have f:=flatR_at (xs:=xs) (i:=i / 2) (by omega)
  rcases Nat.mod_two_eq_zero_or_one i with e | e
  · have e2:i / 2*2=i:=by omega
    rw [e2] at g f
    rw [f.1] at hu;cases hu
    exact g.2.2.2.2.1
  · have e2:i / 2*2+1=i:=by omega
    rw [e2] at f
    rw [f.2] at hu;cases hu
    have:=g.2.2.2.2.2.1
    rwa [show off+i / 2*2+1=off+i by omega] at this
end Go.Proofs.Ytpbclpopoodklaa
