/- Lemmas for the proof of FnMinimum, part 18 of 52: no condition of their own. -/
import Derived.Test.YtalkhmgfnmaaaaaRV
import Derived.Test.YtalkhmgfnmaaaaaK1
import Derived.Test.YtalkhmgfnmaaaaaCell
namespace Go.Proofs.Ytalkhmgfnmaaaaa
set_option linter.unusedSimpArgs false
set_option linter.unusedVariables false
open Go.RowKit
structure RatD where
  num:Int
  den:Int
def ratR:Rep RatD:=fun _ _ _ _ cs x=>cs=[.int .i64 x.num,.int .i64 x.den]∧I64 x.num∧I64 x.den
abbrev RatsA:=SlA 2 ratR
def qx (xs:List RatD) (i:Nat):RatD:=xs.getD i ⟨0,0⟩
theorem qx_lt {xs:List RatD} {i:Nat} (h:i<xs.length):qx xs i=xs[i]:=by simp [qx,h]
theorem ratsSome {fz:Bool} {lo hi:Nat} {w:World} {a:Option Addr} {n c:Nat} {xs:List RatD} (h:RatsA fz lo hi w a n c xs) (hn:0<n):∃ b off,a=some ⟨b,off,none⟩:=by
  obtain ⟨b,off,ha,_⟩:=h.open hn
  exact ⟨b,off,ha⟩
theorem ratsAt {fz:Bool} {lo hi:Nat} {w:World} {b off n c:Nat} {xs:List RatD} (h:RatsA fz lo hi w (some ⟨b,off,none⟩) n c xs) {i:Nat} (hi':i<n) :
    lo≤b∧b<hi∧I64 (qx xs i).num∧I64 (qx xs i).den∧w.cell? ⟨b,off+i*2,none⟩=some (.int .i64 (qx xs i).num)∧w.cell? ⟨b,off+i*2+1,none⟩=some (.int .i64 (qx xs i).den) ∧
      (fz=true→w.frozen? ⟨b,off+i*2,none⟩=false∧w.frozen? ⟨b,off+i*2+1,none⟩=false):=by
  obtain ⟨b',off',ha,hl,hb,hc⟩:=h.open (by omega)
  simp only [Option.some.injEq,Addr.mk.injEq,and_true] at ha
  obtain ⟨rfl,rfl⟩:=ha
  obtain ⟨cs,x,g1,g2,⟨rfl,g3,g5⟩,g4⟩:=hc i hi'
  have k0:=g4 0 (by omega)
  have k1:=g4 1 (by omega)
  have hx:qx xs i=x:=by simp [qx,g2]
  rw [hx]
  exact ⟨hl,hb,g3,g5,by simpa using k0.1,by simpa using k1.1,fun hf=>⟨by simpa using k0.2 hf,by simpa using k1.2 hf⟩⟩
def flatR:List RatD→List Value
  | []=>[]
  | x :: xs=>.int .i64 x.num :: .int .i64 x.den :: flatR xs
theorem flatR_len (xs:List RatD):(flatR xs).length=xs.length*2:=by
  induction xs with
  | nil=>rfl
  | cons x xs ih=>simp [flatR,ih];omega
theorem flatR_at {xs:List RatD} {i:Nat} (h:i<xs.length):(flatR xs)[i*2]? = some (.int .i64 (qx xs i).num)∧(flatR xs)[i*2+1]? = some (.int .i64 (qx xs i).den):=by
  induction xs generalizing i with
  | nil=>simp at h
  | cons x xs ih =>
    cases i with
    | zero=>simp [flatR,qx]
    | succ i =>
      have:=ih (i:=i) (by simpa using h)
      have e:(i+1)*2=i*2+1+1:=by omega
      have hq:qx (x :: xs) (i+1)=qx xs i:=by simp [qx]
      rw [hq,e]
      simpa [flatR] using this
theorem flatR_one (xs:List RatD):∀ u∈flatR xs,u.oneCell'=true:=by
  induction xs with
  | nil=>intro u hu;simp [flatR] at hu
  | cons x xs ih =>
    intro u hu
    simp only [flatR,List.mem_cons] at hu
    rcases hu with rfl | rfl | hu
    · rfl
    · rfl
    · exact ih u hu
def RatsOK (xs:List RatD):Prop:=∀ x∈xs,I64 x.num∧I64 x.den
theorem RatsOK.at {xs:List RatD} (h:RatsOK xs) {i:Nat} (hi:i<xs.length):I64 (qx xs i).num∧I64 (qx xs i).den:=by rw [qx_lt hi];exact h _ (List.getElem_mem _)
theorem RatsOK.app {xs ys:List RatD} (h:RatsOK xs) (h':RatsOK ys):RatsOK (xs ++ ys):=fun x hx=>(List.mem_append.1 hx).elim (h x) (h' x)
def OwnR (base:Nat) (w:World) (a:Option Addr) (n c:Nat) (xs:List RatD):Prop:=OwnF 32 2 base w a n c (flatR xs)∧RatsOK xs
theorem OwnR.len {base:Nat} {w:World} {a:Option Addr} {n c:Nat} {xs:List RatD} (h:OwnR base w a n c xs):xs.length=n:=by
  have:=h.1.len;rw [flatR_len] at this;omega
theorem OwnR.keep {base:Nat} {w w':World} {a:Option Addr} {n c:Nat} {xs:List RatD} (h:OwnR base w a n c xs) (hk:Keeps base w.heap.size w w'):OwnR base w' a n c xs:=⟨h.1.keep hk,h.2⟩
theorem OwnR.drewN {base:Nat} {w:World} {a:Option Addr} {n c:Nat} {xs:List RatD} (h:OwnR base w a n c xs) (m:Nat):OwnR base (w.drewN m) a n c xs:=h
theorem OwnR.alloc {base:Nat} {w:World} {a:Option Addr} {n c:Nat} {xs:List RatD} (h:OwnR base w a n c xs) (o:Obj):OwnR base (w.alloc o) a n c xs:=⟨h.1.alloc o,h.2⟩
theorem OwnR.low {base base':Nat} {w:World} {a:Option Addr} {n c:Nat} {xs:List RatD} (h:OwnR base w a n c xs) (hb:base'≤base):OwnR base' w a n c xs:=⟨h.1.low hb,h.2⟩
theorem RatsA.flat {fz:Bool} {lo hi:Nat} {w:World} {a:Option Addr} {n c:Nat} {xs:List RatD} (h:RatsA fz lo hi w a n c xs):FlatA 2 lo hi w a n c (flatR xs):=by
  have hl:=h.len
  refine ⟨by rw [flatR_len,hl],h.2.1,h.2.2.1,flatR_one xs,fun hn=>?_,h.2.2.2.2⟩
  obtain ⟨b,off,rfl⟩:=ratsSome h hn
  have h0:=ratsAt h hn
  refine ⟨b,off,rfl,h0.1,h0.2.1,fun i u hu=>?_⟩
  have hi2:i<n*2:=by have:=(List.getElem?_eq_some_iff.1 hu).1;rw [flatR_len,hl] at this;exact this
  obtain ⟨j,hj⟩:∃ j,i=j*2∨i=j*2+1:=⟨i / 2,by omega⟩
  have hjn:j<n:=by omega
  have hx:=flatR_at (xs:=xs) (i:=j) (by omega)
  have ha:=ratsAt h hjn
  rcases hj with rfl | rfl
  · rw [hx.1] at hu;cases hu;exact ha.2.2.2.2.1
  · rw [hx.2] at hu;cases hu;rw [← Nat.add_assoc];exact ha.2.2.2.2.2.1
def mx (xss:List (List RatD)) (i:Nat):List RatD:=xss.getD i []
theorem mx_lt {xss:List (List RatD)} {i:Nat} (h:i<xss.length):mx xss i=xss[i]:=by simp [mx,h]
section
variable {fz:Bool} {lo hi B lo' hi':Nat} {w w':World} {a:Option Addr} {n c:Nat} {xs:List RatD} {xss:List (List RatD)}
end
end Go.Proofs.Ytalkhmgfnmaaaaa
