/- Lemmas for the proof of FnExactMaximize, part 18 of 56: no condition of their own. -/
import Derived.Test.YtpbclpopoodklaaRV
import Derived.Test.YtpbclpopoodklaaK1
import Derived.Test.YtpbclpopoodklaaCell
namespace Go.Proofs.Ytpbclpopoodklaa
set_option linter.unusedSimpArgs false
set_option linter.unusedVariables false
open Go.RowKit
structure RatD where
  num:Int
  den:Int
def ratR:Rep RatD:=fun _ _ _ _ cs x=>cs=[.int .i64 x.num,.int .i64 x.den]∧I64 x.num∧I64 x.den
theorem ratRep:RepOK ratR:=⟨fun h _=>h,fun h _ _=>h,fun h=>h⟩
abbrev RatsA:=SlA 2 ratR
def qx (xs:List RatD) (i:Nat):RatD:=xs.getD i ⟨0,0⟩
theorem qx_lt {xs:List RatD} {i:Nat} (h:i<xs.length):qx xs i=xs[i]:=by simp [qx,h]
theorem qx_get {xs:List RatD} {i:Nat} (h:i<xs.length):xs[i]? = some (qx xs i):=by rw [qx_lt h];simp [h]
theorem ratsSome {fz:Bool} {lo hi:Nat} {w:World} {a:Option Addr} {n c:Nat} {xs:List RatD} (h:RatsA fz lo hi w a n c xs) (hn:0<n):∃ b off,a=some ⟨b,off,none⟩:=by
  obtain ⟨b,off,ha,_⟩:=h.open hn
  exact ⟨b,off,ha⟩
theorem ratsAt {fz:Bool} {lo hi:Nat} {w:World} {b off n c:Nat} {xs:List RatD} (h:RatsA fz lo hi w (some ⟨b,off,none⟩) n c xs) {i:Nat} (hi':i<n) :
    lo≤b∧b<hi∧I64 (qx xs i).num∧I64 (qx xs i).den∧w.cell? ⟨b,off+i*2,none⟩=some (.int .i64 (qx xs i).num)∧w.cell? ⟨b,off+i*2+1,none⟩=some (.int .i64 (qx xs i).den) ∧
      (fz=true→w.frozen? ⟨b,off+i*2,none⟩=false∧w.frozen? ⟨b,off+i*2+1,none⟩=false):=by
  obtain ⟨b',off',ha,hl,hb,hc⟩:=h.open (by omega)
  simp only [Option.some.injEq,Addr.mk.injEq,and_true] at ha
  obtain ⟨rfl,rfl⟩:=ha
  obtain ⟨cs,x,g1,g2,⟨rfl,g3,g5⟩,g4⟩:=hc i hi'
  have k0:=g4 0 (by omega)
  have k1:=g4 1 (by omega)
  have hx:qx xs i=x:=by simp [qx,g2]
  rw [hx]
  exact ⟨hl,hb,g3,g5,by simpa using k0.1,by simpa using k1.1,fun hf=>⟨by simpa using k0.2 hf,by simpa using k1.2 hf⟩⟩
theorem ratsI64 {fz:Bool} {lo hi:Nat} {w:World} {a:Option Addr} {n c:Nat} {xs:List RatD} (h:RatsA fz lo hi w a n c xs) {i:Nat} (hi':i<n):I64 (qx xs i).num∧I64 (qx xs i).den:=by
  obtain ⟨b,off,rfl⟩:=ratsSome h (by omega)
  have:=ratsAt h hi'
  exact ⟨this.2.2.1,this.2.2.2.1⟩
theorem ratsMk {fz:Bool} {lo hi:Nat} {w:World} {b off n c:Nat} {xs:List RatD} (hl:xs.length=n) (hnc:n≤c) (hcm:c≤maxLen) (h1:lo≤b) (h2:b<hi)
    (h:∀ i,i<n→I64 (qx xs i).num∧I64 (qx xs i).den∧w.cell? ⟨b,off+i*2,none⟩=some (.int .i64 (qx xs i).num)∧w.cell? ⟨b,off+i*2+1,none⟩=some (.int .i64 (qx xs i).den)∧(fz=true→w.frozen? ⟨b,off+i*2,none⟩=false∧w.frozen? ⟨b,off+i*2+1,none⟩=false)) :
    RatsA fz lo hi w (some ⟨b,off,none⟩) n c xs:=by
  refine ⟨hl,hnc,hcm,fun _=>⟨b,off,rfl,h1,h2,fun i hi=>?_⟩,fun h=>(by cases h)⟩
  obtain ⟨g1,g2,g3,g4,g5⟩:=h i hi
  refine ⟨[.int .i64 (qx xs i).num,.int .i64 (qx xs i).den],qx xs i,rfl,qx_get (by omega),⟨rfl,g1,g2⟩,fun j hj=>?_⟩
  rcases (by omega:j=0∨j=1) with rfl | rfl
  · exact ⟨by simpa using g3,fun hf=>by simpa using (g5 hf).1⟩
  · exact ⟨by simpa using g4,fun hf=>(g5 hf).2⟩
def flatR:List RatD→List Value
  | []=>[]
  | x :: xs=>.int .i64 x.num :: .int .i64 x.den :: flatR xs
theorem flatR_len (xs:List RatD):(flatR xs).length=xs.length*2:=by
  induction xs with
  | nil=>rfl
  | cons x xs ih=>simp [flatR,ih];omega
theorem flatR_at {xs:List RatD} {i:Nat} (h:i<xs.length):(flatR xs)[i*2]? = some (.int .i64 (qx xs i).num)∧(flatR xs)[i*2+1]? = some (.int .i64 (qx xs i).den):=by
  induction xs generalizing i with
  | nil=>simp at h
  | cons x xs ih =>
    cases i with
    | zero=>simp [flatR,qx]
    | succ i =>
      have:=ih (i:=i) (by simpa using h)
      have e:(i+1)*2=i*2+1+1:=by omega
      have hq:qx (x :: xs) (i+1)=qx xs i:=by simp [qx]
      rw [hq,e]
      simpa [flatR] using this
theorem flatR_one (xs:List RatD):∀ u∈flatR xs,u.oneCell'=true:=by
  induction xs with
  | nil=>intro u hu;simp [flatR] at hu
  | cons x xs ih =>
    intro u hu
    simp only [flatR,List.mem_cons] at hu
    rcases hu with rfl | rfl | hu
    · rfl
    · rfl
    · exact ih u hu
def RatsOK (xs:List RatD):Prop:=∀ x∈xs,I64 x.num∧I64 x.den
theorem RatsOK.at {xs:List RatD} (h:RatsOK xs) {i:Nat} (hi:i<xs.length):I64 (qx xs i).num∧I64 (qx xs i).den:=by rw [qx_lt hi];exact h _ (List.getElem_mem _)
theorem RatsOK.app {xs ys:List RatD} (h:RatsOK xs) (h':RatsOK ys):RatsOK (xs ++ ys):=fun x hx=>(List.mem_append.1 hx).elim (h x) (h' x)
def OwnR (base:Nat) (w:World) (a:Option Addr) (n c:Nat) (xs:List RatD):Prop:=OwnF 39 2 base w a n c (flatR xs)∧RatsOK xs
theorem OwnR.len {base:Nat} {w:World} {a:Option Addr} {n c:Nat} {xs:List RatD} (h:OwnR base w a n c xs):xs.length=n:=by
  have:=h.1.len;rw [flatR_len] at this;omega
theorem OwnR.keep {base:Nat} {w w':World} {a:Option Addr} {n c:Nat} {xs:List RatD} (h:OwnR base w a n c xs) (hk:Keeps base w.heap.size w w'):OwnR base w' a n c xs:=⟨h.1.keep hk,h.2⟩
theorem OwnR.drewN {base:Nat} {w:World} {a:Option Addr} {n c:Nat} {xs:List RatD} (h:OwnR base w a n c xs) (m:Nat):OwnR base (w.drewN m) a n c xs:=h
theorem OwnR.alloc {base:Nat} {w:World} {a:Option Addr} {n c:Nat} {xs:List RatD} (h:OwnR base w a n c xs) (o:Obj):OwnR base (w.alloc o) a n c xs:=⟨h.1.alloc o,h.2⟩
theorem OwnR.low {base base':Nat} {w:World} {a:Option Addr} {n c:Nat} {xs:List RatD} (h:OwnR base w a n c xs) (hb:base'≤base):OwnR base' w a n c xs:=⟨h.1.low hb,h.2⟩
theorem RatsA.flat {fz:Bool} {lo hi:Nat} {w:World} {a:Option Addr} {n c:Nat} {xs:List RatD} (h:RatsA fz lo hi w a n c xs):FlatA 2 lo hi w a n c (flatR xs):=by
  have hl:=h.len
  refine ⟨by rw [flatR_len,hl],h.2.1,h.2.2.1,flatR_one xs,fun hn=>?_,h.2.2.2.2⟩
  obtain ⟨b,off,rfl⟩:=ratsSome h hn
  have h0:=ratsAt h hn
  refine ⟨b,off,rfl,h0.1,h0.2.1,fun i u hu=>?_⟩
  have hi2:i<n*2:=by have:=(List.getElem?_eq_some_iff.1 hu).1;rw [flatR_len,hl] at this;exact this
  obtain ⟨j,hj⟩:∃ j,i=j*2∨i=j*2+1:=⟨i / 2,by omega⟩
  have hjn:j<n:=by omega
  have hx:=flatR_at (xs:=xs) (i:=j) (by omega)
  have ha:=ratsAt h hjn
  rcases hj with rfl | rfl
  · rw [hx.1] at hu;cases hu;exact ha.2.2.2.2.1
  · rw [hx.2] at hu;cases hu;rw [← Nat.add_assoc];exact ha.2.2.2.2.2.1
theorem infoRat:(Try.prog.info? 39).map (fun i=>(i.zero,i.size,i.bytes))=some (some (.agg #[.int .i64 0,.int .i64 0]),2,16):=by kernel_rfl
def matR:Rep (List RatD):=fun fz lo hi w cs xs=>∃ a n c,cs=[.slice a n c]∧RatsA fz lo hi w a n c xs
theorem matRep:RepOK matR :=
  ⟨fun ⟨a,n,c,h1,h2⟩ hk=>⟨a,n,c,h1,SlA.keep ratRep h2 hk⟩,fun ⟨a,n,c,h1,h2⟩ g1 g2=>⟨a,n,c,h1,SlA.wide ratRep h2 g1 g2⟩,fun ⟨a,n,c,h1,h2⟩=>⟨a,n,c,h1,SlA.read ratRep h2⟩⟩
abbrev MatA:=SlA 1 matR
def mx (xss:List (List RatD)) (i:Nat):List RatD:=xss.getD i []
theorem mx_lt {xss:List (List RatD)} {i:Nat} (h:i<xss.length):mx xss i=xss[i]:=by simp [mx,h]
theorem matSome {fz:Bool} {lo hi:Nat} {w:World} {a:Option Addr} {n c:Nat} {xss:List (List RatD)} (h:MatA fz lo hi w a n c xss) (hn:0<n):∃ b off,a=some ⟨b,off,none⟩:=by
  obtain ⟨b,off,ha,_⟩:=h.open hn
  exact ⟨b,off,ha⟩
theorem matAt {fz:Bool} {lo hi:Nat} {w:World} {b off n c:Nat} {xss:List (List RatD)} (h:MatA fz lo hi w (some ⟨b,off,none⟩) n c xss) {i:Nat} (hi':i<n) :
    lo≤b∧b<hi∧∃ ra rn rc,w.cell? ⟨b,off+i,none⟩=some (.slice ra rn rc)∧RatsA fz lo hi w ra rn rc (mx xss i)∧(fz=true→w.frozen? ⟨b,off+i,none⟩=false):=by
  obtain ⟨b',off',ha,hl,hb,hc⟩:=h.open (by omega)
  simp only [Option.some.injEq,Addr.mk.injEq,and_true] at ha
  obtain ⟨rfl,rfl⟩:=ha
  obtain ⟨cs,x,g1,g2,⟨ra,rn,rc,rfl,g3⟩,g4⟩:=hc i hi'
  have g5:=g4 0 (by omega)
  have hx:mx xss i=x:=by simp [mx,g2]
  refine ⟨hl,hb,ra,rn,rc,by simpa using g5.1,by rw [hx];exact g3,by simpa using g5.2⟩
def mlens (xss:List (List RatD)):Nat→Nat
  | 0=>0
  | k+1=>mlens xss k+(mx xss k).length
def matSz (xss:List (List RatD)):Nat:=xss.length+mlens xss xss.length
theorem mlens_mono {xss:List (List RatD)} {i k:Nat} (h:i≤k):mlens xss i≤mlens xss k:=by
  induction k with
  | zero => obtain rfl:i=0:=by omega
            exact Nat.le_refl _
  | succ k ih =>
    by_cases e:i=k+1
    · subst e;exact Nat.le_refl _
    · have:=ih (by omega);simp only [mlens];omega
theorem matSz_at {xss:List (List RatD)} {B i:Nat} (h:matSz xss≤B) (hi:i<xss.length):(mx xss i).length≤B:=by
  have:=mlens_mono (xss:=xss) (i:=i+1) (k:=xss.length) (by omega)
  unfold matSz at h;simp only [mlens] at this;omega
section
variable {fz:Bool} {lo hi B lo' hi':Nat} {w w':World} {a:Option Addr} {n c:Nat} {xs:List RatD} {xss:List (List RatD)}
theorem beRats (h:RatsA fz lo hi w a n c xs) (hb:Below B w w') (hh:hi≤B):RatsA fz lo hi w' a n c xs:=SlA.be ratRep h hb hh
theorem kpRats (h:RatsA fz lo hi w a n c xs) (hb:Keeps lo hi w w'):RatsA fz lo hi w' a n c xs:=SlA.keep ratRep h hb
theorem wdRats (h:RatsA fz lo hi w a n c xs) (hl:lo'≤lo):RatsA fz lo' hi w a n c xs:=SlA.wide ratRep h hl (Nat.le_refl _)
theorem hgRats (h:RatsA fz lo hi w a n c xs) (hl:hi≤hi'):RatsA fz lo hi' w a n c xs:=SlA.wide ratRep h (Nat.le_refl _) hl
theorem beMat (h:MatA fz lo hi w a n c xss) (hb:Below B w w') (hh:hi≤B):MatA fz lo hi w' a n c xss:=SlA.be matRep h hb hh
theorem kpMat (h:MatA fz lo hi w a n c xss) (hb:Keeps lo hi w w'):MatA fz lo hi w' a n c xss:=SlA.keep matRep h hb
theorem wdMat (h:MatA fz lo hi w a n c xss) (hl:lo'≤lo):MatA fz lo' hi w a n c xss:=SlA.wide matRep h hl (Nat.le_refl _)
theorem hgMat (h:MatA fz lo hi w a n c xss) (hl:hi≤hi'):MatA fz lo hi' w a n c xss:=SlA.wide matRep h (Nat.le_refl _) hl
end
end Go.Proofs.Ytpbclpopoodklaa
