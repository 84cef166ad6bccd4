/- Lemmas for the proof of FnCoverDuality, part 7 of 26: no condition of their own. -/
import Derived.Test.YtkohkoiegmcghaaDoorJ4
import Derived.Deep.Slices
import Derived.Deep.RegionHeld3
import Derived.Test.YtkohkoiegmcghaaDoorJ1
import Derived.Test.YtkohkoiegmcghaaDoorJ6
import Derived.Deep.DeepCutAuto
import Derived.Deep.CutBlock
import Derived.RegionTactic
import Derived.ChangeAlike
namespace Go.Proofs.YtkohkoiegmcghaaDoor
set_option linter.unusedSimpArgs false
set_option linter.unusedVariables false
open Go.RowKit
open Classical in
noncomputable def eqT (ar ar':Int) (rows rows':List (List Int)):Bool:=decide (ar=ar'∧rows=rows')
end Go.Proofs.YtkohkoiegmcghaaDoor
namespace Go.Proofs.YtkohkoiegmcghaaDoor
set_option linter.unusedSimpArgs false
set_option linter.unusedVariables false
open Go.RowKit
def CellM (v v':Value):Prop:=v'=v∨∃ x x',v=.int .i64 x∧v'=.int .i64 x'∧I64 x'
theorem CellM.trans {a b c:Value} (h:CellM a b) (k:CellM b c):CellM a c:=by
 rcases k with rfl | ⟨x,x',rfl,rfl,hx⟩
 ·exact h
 ·rcases h with h | ⟨y,y',rfl,_,_⟩
  ·exact .inr ⟨x,x',h.symm,rfl,hx⟩
  ·exact .inr ⟨y,x',rfl,rfl,hx⟩
structure Marked (lo hi:Nat) (w w':World):Prop where
 os:w'.os=w.os
 tape:w'.tape=w.tape
 output:w'.output=w.output
 size:w'.heap.size=w.heap.size
 out:∀ k,(k<lo∨hi≤k)→w'.heap[k]? = w.heap[k]?
 cell:∀ p v,w.cell? p=some v→∃ v',w'.cell? p=some v'∧CellM v v'
 frz:∀ p,w'.frozen? p=w.frozen? p
theorem Marked.refl (lo hi:Nat) (w:World):Marked lo hi w w:=⟨rfl,rfl,rfl,rfl,fun _ _=>rfl,fun _ v h=>⟨v,h,.inl rfl⟩,fun _=>rfl⟩
theorem Marked.trans {lo hi:Nat} {a b c:World} (h:Marked lo hi a b) (k:Marked lo hi b c):Marked lo hi a c :=
 ⟨k.os.trans h.os,k.tape.trans h.tape,k.output.trans h.output,k.size.trans h.size,fun i hi=>(k.out i hi).trans (h.out i hi),fun p v hp=>by
  obtain ⟨v',g1,g2⟩:=h.cell p v hp
  obtain ⟨v'',g3,g4⟩:=k.cell p v' g1
  exact ⟨v'',g3,g2.trans g4⟩,fun p=>(k.frz p).trans (h.frz p)⟩
theorem Marked.drewN {lo hi:Nat} {a b:World} (h:Marked lo hi a b) (m:Nat):Marked lo hi a (b.drewN m):=⟨h.os,h.tape,h.output,h.size,h.out,h.cell,h.frz⟩
theorem Marked.wide {lo hi lo' hi':Nat} {a b:World} (h:Marked lo hi a b) (h1:lo'≤lo) (h2:hi≤hi'):Marked lo' hi' a b:=⟨h.os,h.tape,h.output,h.size,fun k hk=>h.out k (by omega),h.cell,h.frz⟩
theorem Marked.below {lo hi:Nat} {a b:World} (h:Marked lo hi a b):Below lo a b:=⟨h.os,h.tape,h.output,by rw [h.size];exact Nat.le_refl _,fun k hk=>h.out k (.inl hk)⟩
theorem Marked.keeps {lo hi lo' hi':Nat} {a b:World} (h:Marked lo hi a b) (hd:hi'≤lo∨hi≤lo'):Keeps lo' hi' a b:=fun k h1 h2=>h.out k (by omega)
def marks (k:Int):Nat→List Int
 | 0=>[]
 | n+1=>marks k n ++ [k+n]
theorem CellM.slice {a:Option Addr} {n c:Nat} {v:Value} (h:CellM (.slice a n c) v):v=.slice a n c:=by
 rcases h with h | ⟨_,_,h,_⟩
 ·exact h
 ·cases h
end Go.Proofs.YtkohkoiegmcghaaDoor
namespace Go.Proofs.YtkohkoiegmcghaaDoor
set_option linter.unusedSimpArgs false
set_option linter.unusedVariables false
open Go.RowKit
structure MarkedG (lo hi:Nat) (w w':World):Prop where
 os:w'.os=w.os
 tape:w'.tape=w.tape
 output:w'.output=w.output
 size:w.heap.size≤w'.heap.size
 out:∀ k,k<w.heap.size→(k<lo∨hi≤k)→w'.heap[k]? = w.heap[k]?
 cell:∀ p v,w.cell? p=some v→∃ v',w'.cell? p=some v'∧CellM v v'
 frz:∀ p,w.cell? p ≠ none→w'.frozen? p=w.frozen? p
theorem cell_lt {w:World} {p:Addr} (h:w.cell? p ≠ none):p.block<w.heap.size:=by
 cases hc:w.cell? p with
 | none=>exact absurd hc h
 | some v=>exact World.block_lt_of_cell? w _ hc
theorem MarkedG.of_below {lo hi:Nat} {w w':World} (h:Below w.heap.size w w'):MarkedG lo hi w w':=by
 refine ⟨h.os,h.tape,h.output,h.size,fun k hk _=>h.block k hk,fun p v hp=>⟨v,?_,.inl rfl⟩,fun p hp=>?_⟩
 ·rw [h.cell (World.block_lt_of_cell? w _ hp)];exact hp
 ·rw [h.frozen (cell_lt hp)]
theorem MarkedG.trans {lo hi:Nat} {a b c:World} (h:MarkedG lo hi a b) (k:MarkedG lo hi b c):MarkedG lo hi a c:=by
 have hs:=h.size
 refine ⟨k.os.trans h.os,k.tape.trans h.tape,k.output.trans h.output,Nat.le_trans h.size k.size,fun i h1 h2=>(k.out i (by omega) h2).trans (h.out i h1 h2),fun p v hp=>?_,fun p hp=>?_⟩
 ·obtain ⟨v',g1,g2⟩:=h.cell p v hp
  obtain ⟨v'',g3,g4⟩:=k.cell p v' g1
  exact ⟨v'',g3,g2.trans g4⟩
 ·rw [k.frz p,h.frz p hp]
  cases hc:a.cell? p with
  | none=>exact absurd hc hp
  | some v=>obtain ⟨v',g1,_⟩:=h.cell p v hc;rw [g1];exact fun h=>(by cases h)
theorem MarkedG.drewN {lo hi:Nat} {a b:World} (h:MarkedG lo hi a b) (m:Nat):MarkedG lo hi a (b.drewN m):=h.trans (.of_below (below_drewN (Below.refl _ _) m))
theorem MarkedG.keeps {lo hi lo' hi':Nat} {a b:World} (h:MarkedG lo hi a b) (hd:hi'≤lo∨hi≤lo') (hs:hi'≤a.heap.size):Keeps lo' hi' a b:=fun k h1 h2=>h.out k (by omega) (by omega)
theorem MarkedG.below {lo hi B:Nat} {a b:World} (h:MarkedG lo hi a b) (h1:B≤lo) (h2:B≤a.heap.size):Below B a b:=⟨h.os,h.tape,h.output,h.size,fun k hk=>h.out k (by omega) (.inl (by omega))⟩
theorem MarkedG.wide {lo hi lo' hi':Nat} {a b:World} (h:MarkedG lo hi a b) (h1:lo'≤lo) (h2:hi≤hi'):MarkedG lo' hi' a b:=⟨h.os,h.tape,h.output,h.size,fun k hk hk'=>h.out k hk (by omega),h.cell,h.frz⟩
theorem beInts {fz:Bool} {lo hi B:Nat} {w w':World} {a:Option Addr} {n c:Nat} {xs:List Int} (h:IntsA fz lo hi w a n c xs) (hb:Below B w w') (hh:hi≤B):IntsA fz lo hi w' a n c xs:=h.be hb hh
theorem kpInts {fz:Bool} {lo hi:Nat} {w w':World} {a:Option Addr} {n c:Nat} {xs:List Int} (h:IntsA fz lo hi w a n c xs) (hb:Keeps lo hi w w'):IntsA fz lo hi w' a n c xs:=h.keep hb
theorem szSet (w:World) (a:Addr) (v:Value):(w.setCell a v).heap.size=w.heap.size:=by simp [World.setCell]
end Go.Proofs.YtkohkoiegmcghaaDoor
namespace Go.Proofs.YtkohkoiegmcghaaDoor
set_option linter.unusedSimpArgs false
set_option linter.unusedVariables false
open Go.RowKit
structure RatD where
 num:Int
 den:Int
def ratR:Rep RatD:=fun _ _ _ _ cs x=>cs=[.int .i64 x.num,.int .i64 x.den]∧I64 x.num∧I64 x.den
abbrev RatsA:=SlA 2 ratR
def qx (xs:List RatD) (i:Nat):RatD:=xs.getD i ⟨0,0⟩
theorem qx_lt {xs:List RatD} {i:Nat} (h:i<xs.length):qx xs i=xs[i]:=by simp [qx,h]
theorem ratsSome {fz:Bool} {lo hi:Nat} {w:World} {a:Option Addr} {n c:Nat} {xs:List RatD} (h:RatsA fz lo hi w a n c xs) (hn:0<n):∃ b off,a=some ⟨b,off,none⟩:=by
 obtain ⟨b,off,ha,_⟩:=h.open hn
 exact ⟨b,off,ha⟩
theorem ratsAt {fz:Bool} {lo hi:Nat} {w:World} {b off n c:Nat} {xs:List RatD} (h:RatsA fz lo hi w (some ⟨b,off,none⟩) n c xs) {i:Nat} (hi':i<n) :
 lo≤b∧b<hi∧I64 (qx xs i).num∧I64 (qx xs i).den∧w.cell? ⟨b,off+i*2,none⟩=some (.int .i64 (qx xs i).num)∧w.cell? ⟨b,off+i*2+1,none⟩=some (.int .i64 (qx xs i).den) ∧
  (fz=true→w.frozen? ⟨b,off+i*2,none⟩=false∧w.frozen? ⟨b,off+i*2+1,none⟩=false):=by
 obtain ⟨b',off',ha,hl,hb,hc⟩:=h.open (by omega)
 simp only [Option.some.injEq,Addr.mk.injEq,and_true] at ha
 obtain ⟨rfl,rfl⟩:=ha
 obtain ⟨cs,x,g1,g2,⟨rfl,g3,g5⟩,g4⟩:=hc i hi'
 have k0:=g4 0 (by omega)
 have k1:=g4 1 (by omega)
 have hx:qx xs i=x:=by simp [qx,g2]
 rw [hx]
 exact ⟨hl,hb,g3,g5,by simpa using k0.1,by simpa using k1.1,fun hf=>⟨by simpa using k0.2 hf,by simpa using k1.2 hf⟩⟩
def flatR:List RatD→List Value
 | []=>[]
 | x :: xs=>.int .i64 x.num :: .int .i64 x.den :: flatR xs
theorem flatR_len (xs:List RatD):(flatR xs).length=xs.length*2:=by
 induction xs with
 | nil=>rfl
 | cons x xs ih=>simp [flatR,ih];omega
theorem flatR_at {xs:List RatD} {i:Nat} (h:i<xs.length):(flatR xs)[i*2]? = some (.int .i64 (qx xs i).num)∧(flatR xs)[i*2+1]? = some (.int .i64 (qx xs i).den):=by
 induction xs generalizing i with
 | nil=>simp at h
 | cons x xs ih =>
  cases i with
  | zero=>simp [flatR,qx]
  | succ i =>
   have:=ih (i:=i) (by simpa using h)
   have e:(i+1)*2=i*2+1+1:=by omega
   have hq:qx (x :: xs) (i+1)=qx xs i:=by simp [qx]
   rw [hq,e]
   simpa [flatR] using this
theorem flatR_one (xs:List RatD):∀ u∈flatR xs,u.oneCell'=true:=by
 induction xs with
 | nil=>intro u hu;simp [flatR] at hu
 | cons x xs ih =>
  intro u hu
  simp only [flatR,List.mem_cons] at hu
  rcases hu with rfl | rfl | hu
  ·rfl
  ·rfl
  ·exact ih u hu
def RatsOK (xs:List RatD):Prop:=∀ x∈xs,I64 x.num∧I64 x.den
theorem RatsOK.at {xs:List RatD} (h:RatsOK xs) {i:Nat} (hi:i<xs.length):I64 (qx xs i).num∧I64 (qx xs i).den:=by rw [qx_lt hi];exact h _ (List.getElem_mem _)
theorem RatsOK.app {xs ys:List RatD} (h:RatsOK xs) (h':RatsOK ys):RatsOK (xs ++ ys):=fun x hx=>(List.mem_append.1 hx).elim (h x) (h' x)
def OwnR (base:Nat) (w:World) (a:Option Addr) (n c:Nat) (xs:List RatD):Prop:=OwnF 33 2 base w a n c (flatR xs)∧RatsOK xs
theorem OwnR.len {base:Nat} {w:World} {a:Option Addr} {n c:Nat} {xs:List RatD} (h:OwnR base w a n c xs):xs.length=n:=by
 have:=h.1.len;rw [flatR_len] at this;omega
theorem OwnR.keep {base:Nat} {w w':World} {a:Option Addr} {n c:Nat} {xs:List RatD} (h:OwnR base w a n c xs) (hk:Keeps base w.heap.size w w'):OwnR base w' a n c xs:=⟨h.1.keep hk,h.2⟩
theorem OwnR.drewN {base:Nat} {w:World} {a:Option Addr} {n c:Nat} {xs:List RatD} (h:OwnR base w a n c xs) (m:Nat):OwnR base (w.drewN m) a n c xs:=h
theorem OwnR.alloc {base:Nat} {w:World} {a:Option Addr} {n c:Nat} {xs:List RatD} (h:OwnR base w a n c xs) (o:Obj):OwnR base (w.alloc o) a n c xs:=⟨h.1.alloc o,h.2⟩
theorem OwnR.low {base base':Nat} {w:World} {a:Option Addr} {n c:Nat} {xs:List RatD} (h:OwnR base w a n c xs) (hb:base'≤base):OwnR base' w a n c xs:=⟨h.1.low hb,h.2⟩
theorem RatsA.flat {fz:Bool} {lo hi:Nat} {w:World} {a:Option Addr} {n c:Nat} {xs:List RatD} (h:RatsA fz lo hi w a n c xs):FlatA 2 lo hi w a n c (flatR xs):=by
 have hl:=h.len
 refine ⟨by rw [flatR_len,hl],h.2.1,h.2.2.1,flatR_one xs,fun hn=>?_,h.2.2.2.2⟩
 obtain ⟨b,off,rfl⟩:=ratsSome h hn
 have h0:=ratsAt h hn
 refine ⟨b,off,rfl,h0.1,h0.2.1,fun i u hu=>?_⟩
 have hi2:i<n*2:=by have:=(List.getElem?_eq_some_iff.1 hu).1;rw [flatR_len,hl] at this;exact this
 obtain ⟨j,hj⟩:∃ j,i=j*2∨i=j*2+1:=⟨i / 2,by omega⟩
 have hjn:j<n:=by omega
 have hx:=flatR_at (xs:=xs) (i:=j) (by omega)
 have ha:=ratsAt h hjn
 rcases hj with rfl | rfl
 ·rw [hx.1] at hu;cases hu;exact ha.2.2.2.2.1
 ·rw [hx.2] at hu;cases hu;rw [← Nat.add_assoc];exact ha.2.2.2.2.2.1
def mx (xss:List (List RatD)) (i:Nat):List RatD:=xss.getD i []
theorem mx_lt {xss:List (List RatD)} {i:Nat} (h:i<xss.length):mx xss i=xss[i]:=by simp [mx,h]
section
variable {fz:Bool} {lo hi B lo' hi':Nat} {w w':World} {a:Option Addr} {n c:Nat} {xs:List RatD} {xss:List (List RatD)}
end
end Go.Proofs.YtkohkoiegmcghaaDoor
namespace Go.Proofs.YtkohkoiegmcghaaDoor
set_option linter.unusedSimpArgs false
set_option linter.unusedVariables false
open Go.RowKit
def ratDV (x:RatD):DV:=.agg [.int x.num,.int x.den]
abbrev ratsD (xs:List RatD):DV:=.sl 2 (xs.map ratDV)
theorem cxs_two {C:Nat→Nat→Prop} {w:World} {x y:Int} {us:List Value}:CXs C w [.int x,.int y] us↔us=[.int .i64 x,.int .i64 y]∧I64 x∧I64 y:=by
 constructor
 ·rintro ⟨u,t,rfl,⟨rfl,h1⟩,u2,t2,rfl,⟨rfl,h2⟩,rfl⟩;exact ⟨rfl,h1,h2⟩
 ·rintro ⟨rfl,h1,h2⟩;exact ⟨[.int .i64 x],_,rfl,⟨rfl,h1⟩,[.int .i64 y],[],rfl,⟨rfl,h2⟩,rfl⟩
end Go.Proofs.YtkohkoiegmcghaaDoor
namespace Go.Proofs.YtkohkoiegmcghaaDoor
set_option linter.unusedSimpArgs false
set_option linter.unusedVariables false
open Go.RowKit
end Go.Proofs.YtkohkoiegmcghaaDoor
namespace Go.Proofs.YtkohkoiegmcghaaDoor
set_option linter.unusedSimpArgs false
set_option linter.unusedVariables false
open Go.RowKit
theorem max_abs (x:Int):max x (-x)=(x.natAbs:Int):=by omega
def ratOK (n d:Int):Bool:=decide (1≤d∧d≤1000000000) && (decide (-1000000000≤n∧n≤1000000000) && decide (Nat.gcd n.natAbs d.toNat=1))
theorem ratOK_d {n d:Int} (h:¬ (1≤d∧d≤1000000000)):ratOK n d=false:=by simp [ratOK,h]
theorem ratOK_n {n d:Int} (h:¬ (-1000000000≤n∧n≤1000000000)):ratOK n d=false:=by simp [ratOK,h]
theorem ratOK_g {n d:Int} (h1:1≤d∧d≤1000000000) (h2:-1000000000≤n∧n≤1000000000) {g:Nat} (hg:Nat.gcd n.natAbs d.toNat=g):ratOK n d=decide (g=1):=by subst hg;simp [ratOK,h1,h2]
theorem ratOK_out {n d:Int} (h:ratOK n d=true):(1≤d∧d≤1000000000)∧(-1000000000≤n∧n≤1000000000)∧Nat.gcd n.natAbs d.toNat=1:=by
 simp only [ratOK,Bool.and_eq_true,decide_eq_true_eq] at h;exact ⟨h.1,h.2.1,h.2.2⟩
theorem ratOK_neg (n d:Int):ratOK (-n) d=ratOK n d:=by
 have h:decide (-1000000000≤-n∧-n≤1000000000)=decide (-1000000000≤n∧n≤1000000000):=by rw [Bool.eq_iff_iff];simp;omega
 simp only [ratOK,Int.natAbs_neg,h]
abbrev ratV (n d:Int):Value:=.agg #[.int .i64 n,.int .i64 d]
end Go.Proofs.YtkohkoiegmcghaaDoor
namespace Go.Proofs.YtkohkoiegmcghaaDoor
set_option linter.unusedSimpArgs false
set_option linter.unusedVariables false
open Go.RowKit
def newRat (n d:Int):Int×Int×Bool :=
 if d=0∨¬ (-4000000000000000000≤n∧n≤4000000000000000000)∨¬ (-4000000000000000000≤d∧d≤4000000000000000000) then (0,0,false)
 else
  let n':=if d<0 then -n else n
  let d':=if d<0 then -d else d
  let g:Int:=(Nat.gcd n'.natAbs d'.toNat:Nat)
  if ratOK (n'.tdiv g) (d'.tdiv g)=true then (n'.tdiv g,d'.tdiv g,true) else (0,0,false)
theorem newRat_no {n d:Int} (h:d=0∨¬ (-4000000000000000000≤n∧n≤4000000000000000000)∨¬ (-4000000000000000000≤d∧d≤4000000000000000000)):newRat n d=(0,0,false):=by unfold newRat;exact if_pos h
theorem newRat_pos {n d:Int} {g:Nat} (h0:0<d) (h1:d≤4000000000000000000) (h2:-4000000000000000000≤n∧n≤4000000000000000000) (hg:Nat.gcd n.natAbs d.toNat=g) :
 newRat n d=if ratOK (n.tdiv g) (d.tdiv g)=true then (n.tdiv g,d.tdiv g,true) else (0,0,false):=by
 subst hg
 have hn:¬ (d=0∨¬ (-4000000000000000000≤n∧n≤4000000000000000000)∨¬ (-4000000000000000000≤d∧d≤4000000000000000000)):=by omega
 have h3:¬ d<0:=by omega
 simp only [newRat,if_neg hn,if_neg h3]
theorem newRat_neg {n d:Int} {g:Nat} (h0:d<0) (h1:-4000000000000000000≤d) (h2:-4000000000000000000≤n∧n≤4000000000000000000) (hg:Nat.gcd (-n).natAbs (-d).toNat=g) :
 newRat n d=if ratOK ((-n).tdiv g) ((-d).tdiv g)=true then ((-n).tdiv g,(-d).tdiv g,true) else (0,0,false):=by
 subst hg
 have hn:¬ (d=0∨¬ (-4000000000000000000≤n∧n≤4000000000000000000)∨¬ (-4000000000000000000≤d∧d≤4000000000000000000)):=by omega
 simp only [newRat,if_neg hn,if_pos h0]
theorem tdiv_i64 {n:Int} {g:Nat} (h:-4000000000000000000≤n∧n≤4000000000000000000):-4000000000000000000≤n.tdiv g∧n.tdiv g≤4000000000000000000:=by
 have:=Int.natAbs_tdiv_le_natAbs n g
 omega
end Go.Proofs.YtkohkoiegmcghaaDoor
namespace Go.Proofs.YtkohkoiegmcghaaDoor
set_option linter.unusedSimpArgs false
set_option linter.unusedVariables false
open Go.RowKit
theorem mul_bd {x y:Int} (h1:-1000000000≤x∧x≤1000000000) (h2:-1000000000≤y∧y≤1000000000):-1000000000000000000≤x*y∧x*y≤1000000000000000000:=by
 have h:(x*y).natAbs≤1000000000*1000000000:=by rw [Int.natAbs_mul];exact Nat.mul_le_mul (by omega) (by omega)
 omega
def bothOK (an ad bn bd:Int):Bool:=ratOK an ad && ratOK bn bd
def addR (an ad bn bd:Int):Int×Int×Bool:=if bothOK an ad bn bd=true then newRat (an*bd+bn*ad) (ad*bd) else (0,0,false)
def mulR (an ad bn bd:Int):Int×Int×Bool:=if bothOK an ad bn bd=true then newRat (an*bn) (ad*bd) else (0,0,false)
def divR (an ad bn bd:Int):Int×Int×Bool:=if bothOK an ad bn bd=true then newRat (an*bd) (ad*bn) else (0,0,false)
def subR (an ad bn bd:Int):Int×Int×Bool:=addR an ad (-bn) bd
def cmpRat (an ad bn bd:Int):Int:=if bothOK an ad bn bd=true then cmpI (an*bd) (bn*ad) else 0
theorem ratOK_b {n d:Int} (h:ratOK n d=true):(-1000000000≤n∧n≤1000000000)∧(-1000000000≤d∧d≤1000000000)∧0<d:=by
 obtain ⟨h1,h2,_⟩:=ratOK_out h
 omega
theorem bothOK_out {an ad bn bd:Int} (h:bothOK an ad bn bd=true):ratOK an ad=true∧ratOK bn bd=true:=by simpa [bothOK] using h
theorem ops_bd {an ad bn bd:Int} (h:bothOK an ad bn bd=true):(-1000000000000000000≤an*bd∧an*bd≤1000000000000000000)∧(-1000000000000000000≤bn*ad∧bn*ad≤1000000000000000000)∧(-1000000000000000000≤ad*bd∧ad*bd≤1000000000000000000)∧(-1000000000000000000≤an*bn∧an*bn≤1000000000000000000)∧(-1000000000000000000≤ad*bn∧ad*bn≤1000000000000000000):=by
 obtain ⟨h1,h2⟩:=bothOK_out h
 have k1:=ratOK_b h1;have k2:=ratOK_b h2
 exact ⟨mul_bd k1.1 k2.2.1,mul_bd k2.1 k1.2.1,mul_bd k1.2.1 k2.2.1,mul_bd k1.1 k2.1,mul_bd k1.2.1 k2.1⟩
theorem cmpRat_no {an ad bn bd:Int} (h:bothOK an ad bn bd=false):cmpRat an ad bn bd=0:=by unfold cmpRat;rw [if_neg (by rw [h];decide)]
theorem cmpRat_yes {an ad bn bd:Int} (h:bothOK an ad bn bd=true):cmpRat an ad bn bd=cmpI (an*bd) (bn*ad):=by unfold cmpRat;rw [if_pos h]
theorem cmpI_lt {x y:Int} (h:x<y):cmpI x y = -1:=by unfold cmpI;rw [if_pos h]
theorem cmpI_gt {x y:Int} (h:y<x):cmpI x y=1:=by unfold cmpI;rw [if_neg (by omega),if_pos h]
theorem cmpI_eq {x y:Int} (h:¬ x<y) (h':¬ y<x):cmpI x y=0:=by unfold cmpI;rw [if_neg h,if_neg h']
end Go.Proofs.YtkohkoiegmcghaaDoor
