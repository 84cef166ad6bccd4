/- Lemmas for the proof of FnExactMaximumPacking, part 3 of 27: no condition of their own. -/
import Derived.Test.YteiaofkgbdlpoaaDoorJ1
import Derived.Laws.BytesArg
namespace Go.Proofs.YteiaofkgbdlpoaaDoor
set_option linter.unusedSimpArgs false
set_option linter.unusedVariables false
open Go.RowKit
structure AtomD where
 nm:ByteArray
 vs:List Int
def atomR:Rep AtomD:=fun fz lo hi w cs x=>∃ a n c,cs=[.string x.nm,.slice a n c]∧x.nm.size≤9223372036854775807∧IntsA fz lo hi w a n c x.vs
theorem atomOK:RepOK atomR :=
 ⟨fun ⟨a,n,c,h1,h2,h3⟩ hk=>⟨a,n,c,h1,h2,h3.keep hk⟩,fun ⟨a,n,c,h1,h2,h3⟩ g1 g2=>⟨a,n,c,h1,h2,h3.wide g1 g2⟩,fun ⟨a,n,c,h1,h2,h3⟩=>⟨a,n,c,h1,h2,h3.read⟩⟩
abbrev AtomsA:=SlA 2 atomR
def ax (xs:List AtomD) (i:Nat):AtomD:=xs.getD i ⟨⟨#[]⟩,[]⟩
theorem ax_lt {xs:List AtomD} {i:Nat} (h:i<xs.length):ax xs i=xs[i]:=by simp [ax,h]
theorem atomsSome {fz:Bool} {lo hi:Nat} {w:World} {a:Option Addr} {n c:Nat} {xs:List AtomD} (h:AtomsA fz lo hi w a n c xs) (hn:0<n):∃ b off,a=some ⟨b,off,none⟩:=by
 obtain ⟨b,off,ha,_⟩:=h.open hn
 exact ⟨b,off,ha⟩
theorem atomsAt {fz:Bool} {lo hi:Nat} {w:World} {b off n c:Nat} {xs:List AtomD} (h:AtomsA fz lo hi w (some ⟨b,off,none⟩) n c xs) {i:Nat} (hi':i<n) :
 lo≤b∧b<hi∧(ax xs i).nm.size≤9223372036854775807∧∃ ra rn rc,w.cell? ⟨b,off+i*2,none⟩=some (.string (ax xs i).nm)∧w.cell? ⟨b,off+i*2+1,none⟩=some (.slice ra rn rc)∧IntsA fz lo hi w ra rn rc (ax xs i).vs ∧
  (fz=true→w.frozen? ⟨b,off+i*2,none⟩=false∧w.frozen? ⟨b,off+i*2+1,none⟩=false):=by
 obtain ⟨b',off',ha,hl,hb,hc⟩:=h.open (by omega)
 simp only [Option.some.injEq,Addr.mk.injEq,and_true] at ha
 obtain ⟨rfl,rfl⟩:=ha
 obtain ⟨cs,x,g1,g2,⟨ra,rn,rc,rfl,g3,g5⟩,g4⟩:=hc i hi'
 have k0:=g4 0 (by omega)
 have k1:=g4 1 (by omega)
 have hx:ax xs i=x:=by simp [ax,g2]
 rw [hx]
 exact ⟨hl,hb,g3,ra,rn,rc,by simpa using k0.1,by simpa using k1.1,g5,fun hf=>⟨by simpa using k0.2 hf,by simpa using k1.2 hf⟩⟩
def atomLens (xs:List AtomD):Nat→Nat
 | 0=>0
 | k+1=>atomLens xs k+((ax xs k).nm.size+(ax xs k).vs.length)
def atomsSz (xs:List AtomD):Nat:=xs.length+atomLens xs xs.length
theorem atomLens_mono {xs:List AtomD} {i k:Nat} (h:i≤k):atomLens xs i≤atomLens xs k:=by
 induction k with
 | zero =>obtain rfl:i=0:=by omega
          exact Nat.le_refl _
 | succ k ih =>
  by_cases e:i=k+1
  ·subst e;exact Nat.le_refl _
  ·have:=ih (by omega);simp only [atomLens];omega
theorem atomsSz_at {xs:List AtomD} {B i:Nat} (h:atomsSz xs≤B) (hi:i<xs.length):(ax xs i).nm.size+(ax xs i).vs.length≤B:=by
 have:=atomLens_mono (xs:=xs) (i:=i+1) (k:=xs.length) (by omega)
 unfold atomsSz at h;simp only [atomLens] at this;omega
abbrev atomV (s:ByteArray) (a:Option Addr) (n c:Nat):Value:=.agg #[.string s,.slice a n c]
set_option maxHeartbeats 800000 in
theorem szAtom1 {fz:Bool} {lo hi:Nat} (s:ByteArray) (a:Option Addr) (n c:Nat) (xs:List Int) (left:Int) (w:World) (hI:IntsA fz lo hi w a n c xs) (hh:hi≤w.heap.size) (hs:s.size≤9223372036854775807) (h0:0≤left) (h1:left≤1048576) :
 Calls Tryd.prog 45 #[atomV s a n c,.int .i64 left] w (Leaves w (.int .i64 (szI (s.size+xs.length) left))):=by
 by_cases hle:(s.size:Int)≤left
 ·obtain ⟨t,ht⟩:∃ t,t=left - s.size:=⟨_,rfl⟩
  have ht0:0≤t:=by omega
  have ht1:t≤1048576:=by omega
  by_cases hle2:(xs.length:Int)≤t
  ·obtain ⟨u,hu⟩:∃ u,u=t - xs.length:=⟨_,rfl⟩
   have hu0:0≤u:=by omega
   have HS:=hid (szI_yes hle2)
   have HE:Hid (szI (s.size+xs.length) left=u):=hid (by rw [szI_yes (by omega)];omega)
   have HU:=hid (And.intro hle2 (And.intro hu ht));clear hle2 hu
   go_enter Tryd.func45,Tryd.ntmps45
   go_wp2_with fail
   rw [← ht]
   refine (szK_Ints a n c xs t _ (beInts (B:=w.heap.size) hI belA hh) ht0 ht1).mono ?_
   rintro e w1 ⟨rfl,m1,rfl⟩
   rw [HS.out,← HU.out.2.1]
   clear ht
   go_wp2_with fail
   go_ret
   exact ⟨by rw [HE.out];rfl,belA⟩
  ·have HS:=hid (szI_no hle2)
   have HE:Hid (szI (s.size+xs.length) left = -1):=hid (by rw [szI_no (by omega)])
   have HU:=hid hle2;clear hle2
   go_enter Tryd.func45,Tryd.ntmps45
   go_wp2_with fail
   rw [← ht]
   refine (szK_Ints a n c xs t _ (beInts (B:=w.heap.size) hI belA hh) ht0 ht1).mono ?_
   rintro e w1 ⟨rfl,m1,rfl⟩
   rw [HS.out]
   clear ht
   go_wp2_with fail
   go_ret
   exact ⟨by rw [HE.out];rfl,belA⟩
 ·have HE:Hid (szI (s.size+xs.length) left = -1):=hid (by rw [szI_no (by omega)])
  go_enter Tryd.func45,Tryd.ntmps45
  go_wp2_with fail
  go_ret
  exact ⟨by rw [HE.out];rfl,belA⟩
set_option maxHeartbeats 800000 in
theorem eqAtom1 {fz fz':Bool} {lo hi lo' hi':Nat} (s:ByteArray) (a a':Option Addr) (n c n' c':Nat) (xs:List Int) (w:World) (hI:IntsA fz lo hi w a n c xs) (hh:hi≤w.heap.size) (hJ:IntsA fz' lo' hi' w a' n' c' xs) (hh':hi'≤w.heap.size) :
 Calls Tryd.prog 55 #[atomV s a n c,atomV s a' n' c'] w (Leaves w (.bool true)):=by
 go_enter Tryd.func55,Tryd.ntmps55
 go_wp2_with fail
 refine (eqK_Ints a a' n c n' c' xs _ (beInts (B:=w.heap.size) hI belA hh) (beInts (B:=w.heap.size) hJ belA hh')).mono ?_
 rintro e w1 ⟨rfl,m1,rfl⟩
 go_wp2_with fail
 go_ret
 exact ⟨rfl,belA⟩
def GvAtom (w:World) (s:ByteArray) (xs:List Int) (e:Ending) (w':World):Prop:=∃ a n c,e=.returned (atomV s a n c)∧IntsA true w.heap.size w'.heap.size w' a n c xs∧Below w.heap.size w w'
set_option maxHeartbeats 800000 in
theorem toAtom1 {lo hi:Nat} (s:ByteArray) (a:Option Addr) (n c:Nat) (xs:List Int) (w:World) (hI:IntsA false lo hi w a n c xs) (hh:hi≤w.heap.size) (hn:xs.length≤1048576) :
 Calls Tryd.prog 49 #[atomV s a n c] w (GvAtom w s xs):=by
 go_enter Tryd.func49,Tryd.ntmps49
 go_wp2_with fail
 refine (toK_Ints a n c xs _ (beInts (B:=w.heap.size) hI belA hh) leA hn).mono ?_
 rintro e w1 ⟨a1,n1,c1,rfl,ho1,hb1⟩
 have hz:=hb1.size
 simp at hz
 have hb2:Below w.heap.size w w1:=Below.trans belA (hb1.mono leA)
 have q0:w1.cell? ⟨w.heap.size+1,0,none⟩=some (.string ⟨#[]⟩):=(by rw [(bcell hb1).1 _ _ (by first | omega | (simp;done) | (simp;omega))];first | with_reducible assumption | (go_simp;done) | assumption | (simp [World.cell?];done))
 have q1:w1.cell? ⟨w.heap.size+1,1,none⟩=some (.slice none 0 0):=(by rw [(bcell hb1).1 _ _ (by first | omega | (simp;done) | (simp;omega))];first | with_reducible assumption | (go_simp;done) | assumption | (simp [World.cell?];done))
 have q2:w1.frozen? ⟨w.heap.size+1,0,none⟩=false:=(by rw [(bcell hb1).2 _ _ (by first | omega | (simp;done) | (simp;omega))];first | with_reducible assumption | (go_simp;done) | assumption | (simp [World.frozen?];done))
 have q3:w1.frozen? ⟨w.heap.size+1,1,none⟩=false:=(by rw [(bcell hb1).2 _ _ (by first | omega | (simp;done) | (simp;omega))];first | with_reducible assumption | (go_simp;done) | assumption | (simp [World.frozen?];done))
 have r0:w1.cell? ⟨w.heap.size+1+1,0,none⟩=some (.string s):=(by rw [(bcell hb1).1 _ _ (by first | omega | (simp;done) | (simp;omega))];first | with_reducible assumption | (go_simp;done) | assumption | (simp [World.cell?];done))
 have r1:w1.cell? ⟨w.heap.size+1+1,1,none⟩=some (.slice none 0 0):=(by rw [(bcell hb1).1 _ _ (by first | omega | (simp;done) | (simp;omega))];first | with_reducible assumption | (go_simp;done) | assumption | (simp [World.cell?];done))
 have r2:w1.frozen? ⟨w.heap.size+1+1,0,none⟩=false:=(by rw [(bcell hb1).2 _ _ (by first | omega | (simp;done) | (simp;omega))];first | with_reducible assumption | (go_simp;done) | assumption | (simp [World.frozen?];done))
 have r3:w1.frozen? ⟨w.heap.size+1+1,1,none⟩=false:=(by rw [(bcell hb1).2 _ _ (by first | omega | (simp;done) | (simp;omega))];first | with_reducible assumption | (go_simp;done) | assumption | (simp [World.frozen?];done))
 have HO:=hid ho1;clear ho1
 have HB:=hid (And.intro hb1 hb2);clear hb1 hb2
 go_wp2_with fail
 refine bodyPost_ret (v:=atomV s a1 n1 c1) ?_ rfl ⟨_,_,_,rfl,?_,?_⟩
 ·simp [results,Tryd.results49,go_sem,q0,q1]
 ·have h1:IntsA true (w.heap.size+1+1+1) w1.heap.size w1 a1 n1 c1 xs:=by simpa using HO.out
  exact hgInts (wdInts (kpInts h1 (Keeps.sc (Keeps.sc (Keeps.sc (Keeps.refl _ _ _) (.inl (by omega)) _) (.inl (by omega)) _) (.inl (by omega)) _)) (by omega)) (by simp only [szSet];omega)
 ·exact Below.trans HB.out.2 (Below.setCell (Below.setCell (Below.setCell (Below.refl _ _) (by dsimp only;omega) _) (by dsimp only;omega) _) (by dsimp only;omega) _)
def AtomA (fz:Bool) (lo hi:Nat) (w:World) (s:ByteArray) (a:Option Addr) (n c:Nat) (xs:List Int):Prop:=s.size≤9223372036854775807∧IntsA fz lo hi w a n c xs
def szAtomD (s:ByteArray) (xs:List Int):Nat:=s.size+xs.length
section
variable {fz:Bool} {lo hi B lo':Nat} {w w':World} {s:ByteArray} {a:Option Addr} {n c:Nat} {xs:List Int}
end
def GvAtomK (w:World) (s:ByteArray) (xs:List Int) (e:Ending) (w':World):Prop:=∃ a n c,e=.returned (atomV s a n c)∧AtomA true w.heap.size w'.heap.size w' s a n c xs∧Below w.heap.size w w'
theorem toK_Atom {lo hi:Nat} (s:ByteArray) (a:Option Addr) (n c:Nat) (xs:List Int) (w:World) (hI:AtomA false lo hi w s a n c xs) (hh:hi≤w.heap.size) (hs:szAtomD s xs≤1048576) :
 Calls Tryd.prog 49 #[atomV s a n c] w (GvAtomK w s xs):=(toAtom1 s a n c xs w hI.2 hh (by unfold szAtomD at hs;omega)).mono fun _ _ ⟨a',n',c',h1,h2,h3⟩=>⟨a',n',c',h1,⟨hI.1,h2⟩,h3⟩
theorem szK_Atom {fz:Bool} {lo hi:Nat} (s:ByteArray) (a:Option Addr) (n c:Nat) (xs:List Int) (left:Int) (w:World) (hI:AtomA fz lo hi w s a n c xs) (hh:hi≤w.heap.size) (h0:0≤left) (h1:left≤1048576) :
 Calls Tryd.prog 45 #[atomV s a n c,.int .i64 left] w (Leaves w (.int .i64 (szI (szAtomD s xs) left))):=szAtom1 s a n c xs left w hI.2 hh hI.1 h0 h1
end Go.Proofs.YteiaofkgbdlpoaaDoor
namespace Go.Proofs.YteiaofkgbdlpoaaDoor
set_option linter.unusedSimpArgs false
set_option linter.unusedVariables false
open Go.RowKit
def Later (B:Nat) (w0:World):Type:={w':World // Below B w0 w'}
def Later.w {B:Nat} {w0:World} (x:Later B w0):World:=x.1
theorem Later.be {B:Nat} {w0:World} (x:Later B w0):Below B w0 x.w:=x.2
instance (B:Nat) (w0:World):Nonempty (Later B w0):=⟨⟨w0,Below.refl B w0⟩⟩
theorem below_drew1 {B:Nat} {a w:World} (h:Below B a w):Below B a w.drew:=⟨h.os,h.tape,h.output,h.size,h.block⟩
theorem wp_region_later {B:Nat} {w0:World} {id:Nat} {Q:Exit→Act→World→Prop} {a:Act} {w:World} {l:List Oper} (hm:Tryd.prog.follows .mixedOrders=true) (hB:Region.lexB .any l.toArray=true) (hw:Below B w0 w)
 (h:wpQuiet Tryd.prog l.toArray (fun w'=>∃ n:Later B w0,w'=n.w) (fun a'=>∀ w',(∃ n:Later B w0,w'=n.w)→Q .normal a' w') l a):(Code.region id l.toArray true).wp Tryd.prog Q a w:=wp_region_quiet (C:=fun w'=>∃ n:Later B w0,w'=n.w) hm hB ⟨⟨w.drew,below_drew1 hw⟩,rfl⟩ (by simpa using h)
theorem later_of {B:Nat} {w0:World} {f:FuncId} {args:Array Value} {v:Value} (n:Later B w0) (hB:B≤w0.heap.size) (h:Calls Tryd.prog f args n.w (Leaves n.w v)) :
 Calls Tryd.prog f args n.w fun e w''=>e=.returned v∧∃ m:Later B w0,w''=m.w:=h.mono fun _ w'' ⟨he,hb⟩=>⟨he,⟨w'',n.be.trans (hb.mono (Nat.le_trans hB n.be.size))⟩,rfl⟩
theorem later_gives {B:Nat} {w0:World} {f:FuncId} {args:Array Value} {v:Value} (n:Later B w0) (hB:B≤w0.heap.size) (h:Calls Tryd.prog f args n.w (Gives n.w v)) :
 Calls Tryd.prog f args n.w fun e w''=>e=.returned v∧∃ m:Later B w0,w''=m.w:=later_of n hB (h.mono fun _ _ h=>h.leaves)
theorem Later.cell {B:Nat} {w0:World} {b o:Nat} {v:Value} (h:w0.cell? ⟨b,o,none⟩=some v) (hb:b<B) (x:Later B w0):x.w.cell? ⟨b,o,none⟩=some v:=by
 rw [x.be.cell (p:=⟨b,o,none⟩) hb];exact h
theorem Later.size {B:Nat} {w0:World} (x:Later B w0):w0.heap.size≤x.w.heap.size:=x.be.size
end Go.Proofs.YteiaofkgbdlpoaaDoor
namespace Go.Proofs.YteiaofkgbdlpoaaDoor
set_option linter.unusedSimpArgs false
set_option linter.unusedVariables false
open Go.RowKit
theorem AtomsA.be {fz:Bool} {lo hi B:Nat} {w w':World} {a:Option Addr} {n c:Nat} {xs:List AtomD} (h:AtomsA fz lo hi w a n c xs) (hb:Below B w w') (hh:hi≤B):AtomsA fz lo hi w' a n c xs:=SlA.be atomOK h hb hh
set_option maxHeartbeats 1600000 in
theorem szAtoms {fz:Bool} {lo hi:Nat} (a:Option Addr) (n c:Nat) (xs:List AtomD) (left:Int) (w:World) (hI:AtomsA fz lo hi w a n c xs) (hh:hi≤w.heap.size) (h0:0≤left) (h1:left≤1048576) :
 Calls Tryd.prog 23 #[.slice a n c,.int .i64 left] w (Leaves w (.int .i64 (szI (atomsSz xs) left))):=by
 have hl:=hI.len
 have hs:=hI.small
 have HL:=hid hl;clear hl
 by_cases hle:(n:Int)≤left
 ·go_enter Tryd.func23,Tryd.ntmps23
  go_wp2_with fail
  go_loopw [1,5] (fun l i wr=>∃ (k:Nat) (t:Int),i=.int .i64 k∧l=.int .i64 t∧k≤n∧Hid (t=left - n - atomLens xs k)∧0≤t∧t≤1048576∧Hid (Below w.heap.size w wr)) (fun _ i _=>n - (intOf i).toNat)
  case atStart=>exact ⟨0,_,rfl,rfl,by omega,hid (by simp [atomLens]),by omega,by omega,hid (Below.refl _ _)⟩
  case round =>
   obtain ⟨k,t,rfl,rfl,hk2,HA,ht0,ht1,HB⟩:=hrel
   by_cases hlt:k<n
   ·have hIr:=hI.be HB.out hh
    have hzr:=HB.out.size
    obtain ⟨b,off,rfl⟩:=atomsSome hIr (by omega)
    obtain ⟨_,_,hsz,ra,rn,rc,d0,d1,hr,_⟩:=atomsAt hIr hlt
    have HI:=hid (And.intro hI hIr);clear hI hIr
    generalize hnm:(ax xs k).nm=nm at *
    generalize hvs:(ax xs k).vs=vs at *
    by_cases hle2:((szAtomD nm vs:Nat):Int)≤t
    ·obtain ⟨u,hu⟩:∃ u,u=t - (szAtomD nm vs:Nat):=⟨_,rfl⟩
     have hu0:0≤u:=by omega
     have hu1:u≤1048576:=by omega
     have HS:Hid (szI (szAtomD nm vs) t=u):=hid (by rw [szI_yes hle2,hu])
     have HU:Hid (u=left - n - atomLens xs (k+1)):=hid (by have g:=HA.out;simp only [atomLens];rw [hnm,hvs,hu];unfold szAtomD;omega)
     have HN:=hid (And.intro hnm (And.intro hvs (And.intro hle2 hu)));clear hnm hvs hle2 hu
     go_wp2_with fail
     refine (szK_Atom nm ra rn rc vs t _ ⟨hsz,hr⟩ (by omega) ht0 ht1).mono ?_
     rintro e w3 ⟨rfl,hb3⟩
     rw [HS.out]
     have HB3:=hid (Below.calm HB.out hb3);clear hb3
     go_wp2_with fail
     go_roundw
     case rel=>exact ⟨k+1,_,by go_num,rfl,by omega,HU,hu0,hu1,HB3⟩
     case measure=>simp [intOf];omega
    ·have HS:=hid (szI_no hle2)
     have HF:Hid (szI (atomsSz xs) left = -1):=hid (by
      have g:=HA.out
      have g2:=atomLens_mono (xs:=xs) (i:=k+1) (k:=xs.length) (by rw [HL.out];omega)
      simp only [atomLens] at g2;rw [hnm,hvs] at g2
      unfold szAtomD at hle2
      have g3:=HL.out
      rw [szI_no (by unfold atomsSz;omega)])
     have HN:=hid (And.intro hnm (And.intro hvs hle2));clear hnm hvs hle2
     go_wp2_with fail
     refine (szK_Atom nm ra rn rc vs t _ ⟨hsz,hr⟩ (by omega) ht0 ht1).mono ?_
     rintro e w3 ⟨rfl,hb3⟩
     rw [HS.out]
     have HB3:=hid (Below.calm HB.out hb3);clear hb3
     go_wp2_with fail
     go_ret
     exact ⟨by rw [HF.out];rfl,HB3.out⟩
   ·have HF:Hid (szI (atomsSz xs) left=t):=hid (by
     have g:=HA.out;have g3:=HL.out
     obtain rfl:k=n:=by omega
     rw [szI_yes (by unfold atomsSz;rw [g3];omega)];unfold atomsSz;rw [g3];omega)
    go_wp2_with fail
    go_ret
    exact ⟨by rw [HF.out];rfl,HB.out⟩
 ·have HF:Hid (szI (atomsSz xs) left = -1):=hid (by have g3:=HL.out;rw [szI_no (by unfold atomsSz;omega)])
  go_enter Tryd.func23,Tryd.ntmps23
  go_wp2_with fail
  go_ret
  exact ⟨by rw [HF.out];rfl,belA⟩
set_option maxHeartbeats 1600000 in
theorem eqAtoms {fz fz':Bool} {lo hi lo' hi':Nat} (a a':Option Addr) (n c n' c':Nat) (xs:List AtomD) (w:World) (hI:AtomsA fz lo hi w a n c xs) (hh:hi≤w.heap.size) (hJ:AtomsA fz' lo' hi' w a' n' c' xs) (hh':hi'≤w.heap.size) :
 Calls Tryd.prog 33 #[.slice a n c,.slice a' n' c'] w (Leaves w (.bool true)):=by
 have hl:=hI.len
 have hl':=hJ.len
 have hs:=hI.small
 obtain rfl:n=n':=by omega
 clear hl hl'
 have hb:((n:Int) != (n:Int))=false:=by simp
 go_enter Tryd.func33,Tryd.ntmps33
 go_wp2_with fail
 go_loopw [5] (fun i wr=>∃ k:Nat,i=.int .i64 k∧k≤n∧Hid (Below w.heap.size w wr)) (fun i _=>n - (intOf i).toNat)
 case atStart=>exact ⟨0,rfl,by omega,hid (Below.refl _ _)⟩
 case round =>
  obtain ⟨k,rfl,hk,HB⟩:=hrel
  by_cases hlt:k<n
  ·have hzr:=HB.out.size
   have hIr:=hI.be HB.out hh
   have hJr:=hJ.be HB.out hh'
   obtain ⟨b,off,rfl⟩:=atomsSome hIr (by omega)
   obtain ⟨g1,g2,_,ra,rn,rc,d0,d1,hr,_⟩:=atomsAt hIr hlt
   obtain ⟨b',off',rfl⟩:=atomsSome hJr (by omega)
   obtain ⟨g1',g2',_,ra',rn',rc',d0',d1',hr',_⟩:=atomsAt hJr hlt
   have e0:∀ x:Later wr.heap.size wr,x.w.cell? ⟨b,off+k*2,none⟩=some (.string (ax xs k).nm):=fun x=>x.cell d0 (by omega)
   have e1:∀ x:Later wr.heap.size wr,x.w.cell? ⟨b,off+k*2+1,none⟩=some (.slice ra rn rc):=fun x=>x.cell d1 (by omega)
   have e0':∀ x:Later wr.heap.size wr,x.w.cell? ⟨b',off'+k*2,none⟩=some (.string (ax xs k).nm):=fun x=>x.cell d0' (by omega)
   have e1':∀ x:Later wr.heap.size wr,x.w.cell? ⟨b',off'+k*2+1,none⟩=some (.slice ra' rn' rc'):=fun x=>x.cell d1' (by omega)
   have HC:=hid (fun x:Later wr.heap.size wr=>later_of x (Nat.le_refl _) (eqAtom1 (ax xs k).nm ra ra' rn rc rn' rc' (ax xs k).vs x.w (beInts hr x.be (by omega)) (by have:=x.size;omega) (beInts hr' x.be (by omega)) (by have:=x.size;omega)))
   have HI:=hid (And.intro (And.intro hI hIr) (And.intro (And.intro hJ hJr) (And.intro (And.intro hr hr') (And.intro (And.intro d0 d1) (And.intro d0' d1')))));clear hI hIr hJ hJr hr hr' d0 d1 d0' d1'
   go_wp2_with fail
   refine wp_region_later (B:=wr.heap.size) (w0:=wr) (by kernel_rfl) (by kernel_rfl) (Below.refl _ _) ?_
   repeat (any_goals (first | go_big_quiet_step (((go_at_call 55;exact HC.out _))) | quiet_step (((go_at_call 55;exact HC.out _)))))
   refine wpQuiet_nil ?_
   intro _ hw'
   obtain ⟨nq,hw''⟩:=hw'
   subst hw''
   have HQ:=hid nq.be
   generalize nq.w=wq at *
   have HB2:=hid (Below.calm HB.out HQ.out)
   go_wp2_with fail
   go_roundw
   case rel=>exact ⟨k+1,by go_num,by omega,HB2⟩
   case measure=>simp [intOf];omega
  ·go_wp2_with fail
   go_ret
   exact ⟨rfl,HB.out⟩
theorem infoAtom:(Tryd.prog.info? 54).map (fun i=>(i.zero,i.size,i.bytes))=some (some (.agg #[.string ⟨#[]⟩,.slice none 0 0]),2,40):=by kernel_rfl
def AtomsTo (g:Nat) (w:World) (n:Nat) (xs:List AtomD) (k:Nat):Prop :=
 ∃ vs,w.ownsRow g 54 2 (.slice (some ⟨g,0,none⟩) n n) n vs∧∀ i,i<k→∃ ra rn rc,vs[i*2]? = some (.string (ax xs i).nm)∧vs[i*2+1]? = some (.slice ra rn rc)∧IntsA true (g+1) w.heap.size w ra rn rc (ax xs i).vs
theorem AtomsTo.put {g:Nat} {w w1:World} {n:Nat} {xs:List AtomD} {k:Nat} (h:AtomsTo g w n xs k) (hk:k<n) (hg:g<w.heap.size) (hb:Below w.heap.size w w1) {ra:Option Addr} {rn rc:Nat}
 (hr:IntsA true w.heap.size w1.heap.size w1 ra rn rc (ax xs k).vs) :
 AtomsTo g ((w1.setCell ⟨g,k*2,none⟩ (.string (ax xs k).nm)).setCell ⟨g,k*2+1,none⟩ (.slice ra rn rc)) n xs (k+1)∧Below g w ((w1.setCell ⟨g,k*2,none⟩ (.string (ax xs k).nm)).setCell ⟨g,k*2+1,none⟩ (.slice ra rn rc)) ∧
  (∃ v0,w1.cell? ⟨g,k*2,none⟩=some v0)∧(∃ v0,w1.cell? ⟨g,k*2+1,none⟩=some v0)∧w1.frozen? ⟨g,k*2,none⟩=false∧w1.frozen? ⟨g,k*2+1,none⟩=false:=by
 obtain ⟨vs,ho,hv⟩:=h
 have hlen:vs.length=n*2:=ho.1
 have ho1:w1.ownsRow g 54 2 (.slice (some ⟨g,0,none⟩) n n) n vs:=ho.kept (row:=none) ⟨hb.os,hb.tape,hb.output,hb.size,fun k hk _=>hb.block k hk⟩ (.inr (by simp [Value.ownBlock]))
 obtain ⟨hs1,hs2⟩:=ho1.stored (k*2) (.string (ax xs k).nm)
 obtain ⟨ht1,ht2⟩:=hs1.stored (k*2+1) (.slice ra rn rc)
 have hsz1:(w1.setCell ⟨g,k*2,none⟩ (.string (ax xs k).nm)).heap.size=w1.heap.size:=szSet _ _ _
 have hsz:((w1.setCell ⟨g,k*2,none⟩ (.string (ax xs k).nm)).setCell ⟨g,k*2+1,none⟩ (.slice ra rn rc)).heap.size=w1.heap.size:=by rw [szSet,szSet]
 have hbs:=hb.size
 have hset:Keeps (g+1) w1.heap.size w1 ((w1.setCell ⟨g,k*2,none⟩ (.string (ax xs k).nm)).setCell ⟨g,k*2+1,none⟩ (.slice ra rn rc)):=Keeps.sc (Keeps.sc (Keeps.refl _ _ _) (.inl (by omega)) _) (.inl (by omega)) _
 refine ⟨⟨_,ht1,fun i hi=>?_⟩,?_,?_,?_,ho1.frozenAt _,ho1.frozenAt _⟩
 ·by_cases e:i=k
  ·subst e
   refine ⟨ra,rn,rc,?_,?_,?_⟩
   ·rw [List.getElem?_set_ne (by omega),List.getElem?_set_self (by omega)]
   ·rw [List.getElem?_set_self (by rw [List.length_set];omega)]
   ·rw [hsz];exact (hr.wide (by omega) (Nat.le_refl _)).keep hset
  ·obtain ⟨ra',rn',rc',g1,g2,g3⟩:=hv i (by omega)
   refine ⟨ra',rn',rc',?_,?_,?_⟩
   ·rw [List.getElem?_set_ne (by omega),List.getElem?_set_ne (by omega)];exact g1
   ·rw [List.getElem?_set_ne (by omega),List.getElem?_set_ne (by omega)];exact g2
   ·rw [hsz];exact ((g3.keep (Keeps.of_below hb (Nat.le_refl _))).wide (Nat.le_refl _) hbs).keep hset
 ·exact Below.setCell (Below.setCell (hb.mono (by omega)) (by dsimp only;omega) _) (by dsimp only;omega) _
 ·have:=ho1.cells (g:=g) rfl (k*2) (vs[k*2]'(by omega)) (by simp)
  rw [Addr.add_lit] at this;exact ⟨_,by simpa using this⟩
 ·have:=ho1.cells (g:=g) rfl (k*2+1) (vs[k*2+1]'(by omega)) (by simp)
  rw [Addr.add_lit] at this;exact ⟨_,by simpa using this⟩
def GvAtoms (w:World) (xs:List AtomD) (e:Ending) (w':World):Prop :=
 ∃ a n c,e=.returned (.slice a n c)∧AtomsA true w.heap.size w'.heap.size w' a n c xs∧Below w.heap.size w w'
set_option maxHeartbeats 1600000 in
theorem toAtoms {lo hi:Nat} (a:Option Addr) (n c:Nat) (xs:List AtomD) (w:World) (hI:AtomsA false lo hi w a n c xs) (hh:hi≤w.heap.size) (hs:atomsSz xs≤1048576) :
 Calls Tryd.prog 27 #[.slice a n c] w (GvAtoms w xs):=by
 have hl:=hI.len
 have hn:n≤1048576:=by unfold atomsSz at hs;omega
 have HL:=hid hl;clear hl
 have HS:=hid hs;clear hs
 obtain ⟨i0,hi0,hz0,hz1,hz2⟩:=info_parts infoAtom
 go_enter Tryd.func27,Tryd.ntmps27
 go_wp2_with (at_make;refine wpList_make_full _ rfl _ _ 33 rfl w.heap.size 54 i0 (.agg #[.string ⟨#[]⟩,.slice none 0 0]) 2 Tryd.underlying33 hi0 hz0 hz1 _ _ _ _ n rfl rfl rfl rfl ?b1 ?b2 ?b3 ?_)
 case b1=>rw [hz2];omega
 case b2=>unfold maxLen;omega
 case b3=>exact Nat.le_refl _
 intro w1 hown hgrow
 have hb:Below w.heap.size w w1:=(Below.refl _ _).grown hgrow (Nat.le_refl _) (fun k h=>by cases h)
 obtain ⟨g,hg⟩:∃ g,g=w.heap.size:=⟨_,rfl⟩
 rw [← hg] at hown ⊢
 have hgw:g<w1.heap.size:=by
  have:=hown.lt g rfl;exact this.2
 have HG:=hid hg;clear hg
 have hT:AtomsTo g w1 n xs 0:=⟨_,hown,fun i hi=>by omega⟩
 have HT:=hid hT;clear hT
 have HH:=hid (And.intro hown hgrow);clear hgrow hown
 go_wp2
 go_loopw [4] (fun i wr=>∃ k:Nat,i=.int .i64 k∧k≤n∧AtomsTo g wr n xs k∧Below g w1 wr) (fun i _=>n - (intOf i).toNat)
 case atStart=>exact ⟨0,rfl,by omega,HT.out,Below.refl _ _⟩
 case round =>
  obtain ⟨k,rfl,hk2,hvs,hbr⟩:=hrel
  have HV:=hid hvs;clear hvs
  have HB:=hid hbr;clear hbr
  by_cases hlt:k<n
  ·have hb':Below w.heap.size w wr:=hb.trans (HB.out.mono (by rw [HG.out];exact Nat.le_refl _))
   have hIr:=hI.be hb' hh
   obtain ⟨b,off,rfl⟩:=atomsSome hIr (by omega)
   obtain ⟨_,_,hsz,ra,rn,rc,d0,d1,hr,_⟩:=atomsAt hIr hlt
   have hhi:hi≤wr.heap.size:=by have:=hb'.size;omega
   have hgr:g<wr.heap.size:=by have:=HB.out.size;omega
   have HSA:Hid (szAtomD (ax xs k).nm (ax xs k).vs≤1048576):=hid (by unfold szAtomD;exact atomsSz_at HS.out (by rw [HL.out];exact hlt))
   have HB':=hid hb';clear hb'
   have HI:=hid (And.intro hIr hr);clear hr hIr
   go_wp2_with fail
   refine (toK_Atom (ax xs k).nm ra rn rc (ax xs k).vs wr ⟨hsz,HI.out.2⟩ hhi HSA.out).mono ?_
   rintro e w2 ⟨a2,n2,c2,rfl,ho2,hb2⟩
   obtain ⟨hP,hP2,⟨v0,hcell⟩,⟨v1,hcell1⟩,hfz,hfz1⟩:=HV.out.put hlt hgr hb2 ho2.2
   have HP:=hid hP;clear hP
   have HP2:=hid hP2;clear hP2
   have HB2:=hid (And.intro hb2 ho2);clear hb2 ho2
   go_wp2
   go_roundw
   case rel=>exact ⟨k+1,by go_num,by omega,HP.out,HB.out.trans HP2.out⟩
   case measure=>simp [intOf];omega
  ·go_wp2
   go_ret
   have hb':Below w.heap.size w wr:=hb.trans (HB.out.mono (by rw [HG.out];exact Nat.le_refl _))
   refine ⟨_,n,n,rfl,?_,hb'⟩
   obtain ⟨vs,ho,hv⟩:=HV.out
   have hgr:g<wr.heap.size:=by have:=HB.out.size;omega
   refine ⟨HL.out,Nat.le_refl _,by unfold maxLen;omega,fun _=>⟨g,0,rfl,by rw [HG.out];exact Nat.le_refl _,hgr,fun i hi=>?_⟩,fun h=>(by cases h)⟩
   obtain ⟨ra,rn,rc,g1,g2,g3⟩:=hv i (by omega)
   have hnm:(ax xs i).nm.size≤9223372036854775807:=by
    have:=atomsSz_at HS.out (i:=i) (by rw [HL.out];exact hi);omega
   refine ⟨[.string (ax xs i).nm,.slice ra rn rc],ax xs i,rfl,?_,⟨ra,rn,rc,rfl,hnm,g3.wide (by rw [← HG.out];omega) (Nat.le_refl _)⟩,fun j hj=>?_⟩
   ·rw [ax_lt (by rw [HL.out];exact hi)];simp [HL.out,hi]
   ·rcases (by omega:j=0∨j=1) with rfl | rfl
    ·have:=ho.cells (g:=g) rfl (i*2) _ g1
     rw [Addr.add_lit] at this
     exact ⟨by simpa using this,fun _=>ho.frozenAt _⟩
    ·have:=ho.cells (g:=g) rfl (i*2+1) _ g2
     rw [Addr.add_lit] at this
     exact ⟨by simpa [Nat.add_assoc] using this,fun _=>ho.frozenAt _⟩
theorem conv1 (w:World) (x:Int):(convert 83 9 (.slice (some ⟨w.heap.size,0,none⟩) 1 1)).run Tryd.prog (w.alloc (.cells #[.int .u8 x] 5))=.ok (.string (strOfNums [x])) (w.alloc (.cells #[.int .u8 x] 5)) :=
 run_convert_bytes_arg _ _ _ Tryd.underlying83 Tryd.underlying5 _ 0 1 1 [x] rfl (fun i hi=>by
  obtain rfl:i=0:=by omega
  simp) _ Tryd.underlying9
theorem strOne (x:Int):(strOfNums [x]).size=1:=rfl
def SomeStr (w:World) (e:Ending) (w':World):Prop:=∃ s:ByteArray,e=.returned (.string s)∧Below w.heap.size w w'
def MtRel (w:World) (a b:Value) (wr:World):Prop:=∃ (t:Nat) (s:ByteArray),a=.int .i64 t∧b=.string s∧s.size+t≤4194304∧Hid (Below w.heap.size w wr)
set_option maxHeartbeats 800000 in
theorem markTextAny (k:Nat) (w:World) (hk:k≤4194304):Calls Tryd.prog 56 #[.int .i64 k] w (SomeStr w):=by
 by_cases h0:k=0
 ·subst h0
  go_enter Tryd.func56,Tryd.ntmps56
  go_wp2_with fail
  go_ret
  exact ⟨_,rfl,belA⟩
 ·have h1:0<k:=by omega
  go_enter Tryd.func56,Tryd.ntmps56
  go_wp2_with fail
  go_loopw [0,3] (fun a b wr=>MtRel w a b wr) (fun a _ _=>(intOf a).toNat)
  case atStart=>exact ⟨k,_,rfl,rfl,by show 0+k≤_;omega,hid (Below.refl _ _)⟩
  case round =>
   obtain ⟨t,s,rfl,rfl,hs,HB⟩:=hrel
   by_cases ht:0<t
   ·have hz:=HB.out.size
    have hm0:0≤(t:Int) % 10:=by omega
    have hm1:(t:Int) % 10<10:=by omega
    have hcv:=conv1 wr (48+(t:Int) % 10)
    have hs1:=strOne (48+(t:Int) % 10)
    generalize strOfNums [48+(t:Int) % 10]=s1 at *
    have hsb:s1.size+s.size≤9223372036854775807:=by omega
    have hsb2:¬ 9223372036854775807<s1.size+s.size:=by omega
    have HS1:=hid hs1;clear hs1
    have HB2:Hid (Below w.heap.size w (wr.alloc (.cells #[.int .u8 (48+(t:Int) % 10)] 5))):=hid (Below.al HB.out hz _)
    go_wp2_with fail
    go_roundw
    case rel=>exact ⟨t / 10,s1 ++ s,by rw [show ((t / 10:Nat):Int)=(t:Int) / 10 by omega],rfl,by rw [ByteArray.size_append,HS1.out];omega,HB2⟩
    case measure=>simp [intOf];omega
   ·go_wp2_with fail
    go_ret
    exact ⟨_,rfl,HB.out⟩
def CellQ (v v':Value):Prop:=v'=v∨(∃ x x',v=.int .i64 x∧v'=.int .i64 x'∧I64 x')∨∃ s s',v=.string s∧v'=.string s'
theorem CellM.q {v v':Value} (h:CellM v v'):CellQ v v':=h.elim .inl (fun h=>.inr (.inl h))
theorem CellQ.trans {a b c:Value} (h:CellQ a b) (k:CellQ b c):CellQ a c:=by
 rcases k with rfl | ⟨x,x',rfl,rfl,hx⟩ | ⟨x,x',rfl,rfl⟩
 ·exact h
 ·rcases h with h | ⟨y,y',rfl,_,_⟩ | ⟨y,y',_,h⟩
  ·exact .inr (.inl ⟨x,x',h.symm,rfl,hx⟩)
  ·exact .inr (.inl ⟨y,x',rfl,rfl,hx⟩)
  ·cases h
 ·rcases h with h | ⟨y,y',_,h,_⟩ | ⟨y,y',rfl,_⟩
  ·exact .inr (.inr ⟨x,x',h.symm,rfl⟩)
  ·cases h
  ·exact .inr (.inr ⟨y,x',rfl,rfl⟩)
structure MarkedQ (lo hi:Nat) (w w':World):Prop where
 os:w'.os=w.os
 tape:w'.tape=w.tape
 output:w'.output=w.output
 size:w.heap.size≤w'.heap.size
 out:∀ k,k<w.heap.size→(k<lo∨hi≤k)→w'.heap[k]? = w.heap[k]?
 cell:∀ p v,w.cell? p=some v→∃ v',w'.cell? p=some v'∧CellQ v v'
 frz:∀ p,w.cell? p ≠ none→w'.frozen? p=w.frozen? p
theorem MarkedQ.of {lo hi:Nat} {w w':World} (h:MarkedG lo hi w w'):MarkedQ lo hi w w' :=
 ⟨h.os,h.tape,h.output,h.size,h.out,fun p v hp=>by obtain ⟨v',g1,g2⟩:=h.cell p v hp;exact ⟨v',g1,g2.q⟩,h.frz⟩
theorem MarkedQ.refl (lo hi:Nat) (w:World):MarkedQ lo hi w w:=⟨rfl,rfl,rfl,Nat.le_refl _,fun _ _ _=>rfl,fun _ v h=>⟨v,h,.inl rfl⟩,fun _ _=>rfl⟩
theorem MarkedQ.trans {lo hi:Nat} {a b c:World} (h:MarkedQ lo hi a b) (k:MarkedQ lo hi b c):MarkedQ lo hi a c:=by
 have hs:=h.size
 refine ⟨k.os.trans h.os,k.tape.trans h.tape,k.output.trans h.output,Nat.le_trans h.size k.size,fun i h1 h2=>(k.out i (by omega) h2).trans (h.out i h1 h2),fun p v hp=>?_,fun p hp=>?_⟩
 ·obtain ⟨v',g1,g2⟩:=h.cell p v hp
  obtain ⟨v'',g3,g4⟩:=k.cell p v' g1
  exact ⟨v'',g3,g2.trans g4⟩
 ·rw [k.frz p,h.frz p hp]
  cases hc:a.cell? p with
  | none=>exact absurd hc hp
  | some v=>obtain ⟨v',g1,_⟩:=h.cell p v hc;rw [g1];exact fun h=>(by cases h)
theorem MarkedQ.keeps {lo hi lo' hi':Nat} {a b:World} (h:MarkedQ lo hi a b) (hd:hi'≤lo∨hi≤lo') (hs:hi'≤a.heap.size):Keeps lo' hi' a b:=fun k h1 h2=>h.out k (by omega) (by omega)
theorem MarkedQ.below {lo hi B:Nat} {a b:World} (h:MarkedQ lo hi a b) (h1:B≤lo) (h2:B≤a.heap.size):Below B a b:=⟨h.os,h.tape,h.output,h.size,fun k hk=>h.out k (by omega) (.inl (by omega))⟩
theorem boxQ {lo hi:Nat} {w w':World} (h:MarkedQ lo hi w w') {g:Nat} (o:Nat) (h1:g<w.heap.size) (h2:g<lo∨hi≤g):w'.cell? ⟨g,o,none⟩=w.cell? ⟨g,o,none⟩:=World.cell?_of_block (w:=w) (h.out g h1 h2)
theorem markedQ_str {lo hi:Nat} {w:World} {b o:Nat} {s s':ByteArray} (h:w.cell? ⟨b,o,none⟩=some (.string s)) (h1:lo≤b) (h2:b<hi):MarkedQ lo hi w (w.setCell ⟨b,o,none⟩ (.string s')):=by
 refine ⟨rfl,rfl,rfl,by rw [szSet];exact Nat.le_refl _,fun k _ hk=>?_,fun p v hp=>?_,fun p _=>by simp⟩
 ·rw [heap_setCell_other w ⟨b,o,none⟩ k _ (by show k ≠ b;omega)]
 ·by_cases e:(⟨b,o,none⟩:Addr)=p
  ·subst e
   rw [h] at hp
   cases hp
   exact ⟨_,cset_same h,.inr (.inr ⟨s,s',rfl,rfl⟩)⟩
  ·exact ⟨v,by rw [cset_other e];exact hp,.inl rfl⟩
theorem IntsA.markedQ {lo hi lo' hi':Nat} {w w':World} {a:Option Addr} {n c:Nat} {xs:List Int} (h:IntsA true lo hi w a n c xs) (hm:MarkedQ lo' hi' w w'):∃ ys,IntsA true lo hi w' a n c ys:=by
 obtain ⟨h1,h2,h3,h4,h5,h6⟩:=h
 by_cases hn:0<n
 ·obtain ⟨b,off,ha,hl,hb,hc⟩:=h5 hn
  have each:∀ i,i<n→∃ y:Int,I64 y∧w'.cell? ⟨b,off+i,none⟩=some (.int .i64 y):=by
   intro i hi
   obtain ⟨v',g1,g2⟩:=hm.cell _ _ (hc i hi).1
   rcases g2 with rfl | ⟨_,y,_,rfl,hy⟩ | ⟨_,_,h,_⟩
   ·exact ⟨ix xs i,by rw [ix_lt (by omega)];exact h4 _ (List.getElem_mem _),g1⟩
   ·exact ⟨y,hy,g1⟩
   ·cases h
  obtain ⟨y,hy⟩:=Deep.choose_lt each
  refine ⟨(List.range n).map y,by simp,h2,h3,?_,fun _=>⟨b,off,ha,hl,hb,fun i hi=>⟨?_,fun hf=>by rw [hm.frz _ (by rw [(hc i hi).1];exact fun h=>(by cases h))];exact (hc i hi).2 hf⟩⟩,h6⟩
  ·intro z hz
   obtain ⟨i,hi,rfl⟩:=List.mem_map.1 hz
   exact (hy i (by simpa using hi)).1
  ·rw [(hy i hi).2];simp [ix,hi]
 ·exact ⟨xs,h1,h2,h3,h4,fun h=>absurd h hn,h6⟩
def GivesMQ (lo hi:Nat) (w:World) (r:Int) (e:Ending) (w':World):Prop:=e=.returned (.int .i64 r)∧MarkedQ lo hi w w'
def atomCnt (xs:List AtomD):Nat→Nat
 | 0=>0
 | k+1=>atomCnt xs k+(1+(ax xs k).vs.length)
theorem atomCnt_le (xs:List AtomD) (k:Nat):atomCnt xs k≤k+atomLens xs k:=by
 induction k with
 | zero=>simp [atomCnt]
 | succ k ih=>simp only [atomCnt,atomLens];omega
set_option maxHeartbeats 1600000 in
theorem markAtoms {lo hi:Nat} (a:Option Addr) (n c:Nat) (xs:List AtomD) (k:Nat) (w:World) (hI:AtomsA true lo hi w a n c xs) (hh:hi≤w.heap.size) (h1:k≤2097152) (hs:atomsSz xs≤1048576) :
 Calls Tryd.prog 35 #[.slice a n c,.int .i64 k] w (GivesMQ lo hi w ((k+atomCnt xs n:Nat):Int)):=by
 have hl:=hI.len
 have hsm:=hI.small
 have HL:=hid hl;clear hl
 have HS:=hid hs;clear hs
 go_enter Tryd.func35,Tryd.ntmps35
 go_wp2_with fail
 go_loopw [1,5] (fun q i wr=>∃ (j t:Nat),i=.int .i64 j∧q=.int .i64 t∧Hid (t=k+atomCnt xs j)∧t≤3145728∧j≤n∧Hid (MarkedQ lo hi w wr)) (fun _ i _=>n - (intOf i).toNat)
 case atStart=>exact ⟨0,_,rfl,rfl,hid (by simp [atomCnt]),by omega,by omega,hid (MarkedQ.refl _ _ _)⟩
 case round =>
  obtain ⟨j,t,rfl,rfl,HT,ht,hj,HM⟩:=hrel
  by_cases hlt:j<n
  ·obtain ⟨b,off,rfl⟩:=atomsSome hI (by omega)
   obtain ⟨g1,g2,hsz,ra,rn,rc,d0,d1,hr,hfz⟩:=atomsAt hI hlt
   obtain ⟨v0,e0,q0⟩:=HM.out.cell _ _ d0
   obtain ⟨s0,rfl⟩:∃ s,v0=.string s:=by
    rcases q0 with rfl | ⟨_,_,h,_⟩ | ⟨_,s,_,rfl⟩
    ·exact ⟨_,rfl⟩
    ·cases h
    ·exact ⟨s,rfl⟩
   obtain ⟨v1,e1,q1⟩:=HM.out.cell _ _ d1
   obtain rfl:v1=.slice ra rn rc:=by
    rcases q1 with rfl | ⟨_,_,h,_⟩ | ⟨_,_,h,_⟩
    ·rfl
    ·cases h
    ·cases h
   have hf0:wr.frozen? ⟨b,off+j*2,none⟩=false:=by rw [HM.out.frz _ (by rw [d0];exact fun h=>(by cases h))];exact (hfz rfl).1
   have hzr:=HM.out.size
   have hvl:(ax xs j).vs.length=rn:=hr.len
   have hrn2:rn≤1048576:=by have:=atomsSz_at HS.out (i:=j) (by rw [HL.out];exact hlt);omega
   have hcb:k+atomCnt xs (j+1)≤3145728:=by
    have a1:=atomCnt_le xs (j+1)
    have a2:=atomLens_mono (xs:=xs) (i:=j+1) (k:=xs.length) (by rw [HL.out];omega)
    have a3:=HS.out;have a4:=HL.out;unfold atomsSz at a3;omega
   have hcb2:t+1+rn=k+atomCnt xs (j+1):=by have:=HT.out;simp only [atomCnt];omega
   have HI:=hid (And.intro hI (And.intro hr (And.intro d0 (And.intro d1 (And.intro hvl hfz)))));clear hI hr d0 d1 hvl hfz q0 q1
   have HCB:=hid hcb2;clear hcb2
   go_wp2_with fail
   refine (markTextAny t _ (by omega)).mono ?_
   rintro e w3 ⟨s3,rfl,hb3⟩
   have e0':w3.cell? ⟨b,off+j*2,none⟩=some (.string s0):=by rw [(bcell hb3).1 _ _ (by omega)];exact e0
   have e1':w3.cell? ⟨b,off+j*2+1,none⟩=some (.slice ra rn rc):=by rw [(bcell hb3).1 _ _ (by omega)];exact e1
   have f0':w3.frozen? ⟨b,off+j*2,none⟩=false:=by rw [(bcell hb3).2 _ _ (by omega)];exact hf0
   have hM3:MarkedQ lo hi w w3:=HM.out.trans (.of (.of_below hb3))
   have hM4:=hM3.trans (markedQ_str (s':=s3) e0' g1 g2)
   have e1'':(w3.setCell ⟨b,off+j*2,none⟩ (.string s3)).cell? ⟨b,off+j*2+1,none⟩=some (.slice ra rn rc):=by rw [cset_other (by intro h;simp only [Addr.mk.injEq] at h;omega)];exact e1'
   obtain ⟨ys,hy⟩:=HI.out.2.1.markedQ hM4
   have HY:=hid hy;clear hy
   have HM4:=hid hM4;clear hM4 hM3 hb3 e0 e1
   go_wp2_with fail
   refine (markInts ra rn rc ys ((t:Int)+1) _ HY.out (by omega) (by omega) hrn2).mono ?_
   rintro e w5 ⟨rfl,hm5,_⟩
   have HM5:=hid (HM4.out.trans (.of (.of_marked hm5)));clear hm5
   go_wp2_with fail
   go_roundw
   case rel=>exact ⟨j+1,t+1+rn,by go_num,by go_num,hid HCB.out,by have:=HCB.out;omega,by omega,HM5⟩
   case measure=>simp [intOf];omega
  ·go_wp2_with fail
   go_ret
   obtain rfl:j=n:=by omega
   exact ⟨by rw [HT.out];rfl,HM.out⟩
section
variable {fz:Bool} {lo hi B lo' hi':Nat} {w w':World} {a:Option Addr} {n c:Nat} {xs:List AtomD}
theorem beAtoms (h:AtomsA fz lo hi w a n c xs) (hb:Below B w w') (hh:hi≤B):AtomsA fz lo hi w' a n c xs:=SlA.be atomOK h hb hh
theorem kpAtoms (h:AtomsA fz lo hi w a n c xs) (hb:Keeps lo hi w w'):AtomsA fz lo hi w' a n c xs:=SlA.keep atomOK h hb
theorem wdAtoms (h:AtomsA fz lo hi w a n c xs) (hl:lo'≤lo):AtomsA fz lo' hi w a n c xs:=SlA.wide atomOK h hl (Nat.le_refl _)
theorem hgAtoms (h:AtomsA fz lo hi w a n c xs) (hl:hi≤hi'):AtomsA fz lo hi' w a n c xs:=SlA.wide atomOK h (Nat.le_refl _) hl
end
theorem toK_Atoms {lo hi:Nat} (a:Option Addr) (n c:Nat) (xs:List AtomD) (w:World) (hI:AtomsA false lo hi w a n c xs) (hh:hi≤w.heap.size) (hs:atomsSz xs≤1048576) :
 Calls Tryd.prog 27 #[.slice a n c] w (GvAtoms w xs):=toAtoms a n c xs w hI hh hs
theorem szK_Atoms {fz:Bool} {lo hi:Nat} (a:Option Addr) (n c:Nat) (xs:List AtomD) (left:Int) (w:World) (hI:AtomsA fz lo hi w a n c xs) (hh:hi≤w.heap.size) (h0:0≤left) (h1:left≤1048576) :
 Calls Tryd.prog 23 #[.slice a n c,.int .i64 left] w (Leaves w (.int .i64 (szI (atomsSz xs) left))):=szAtoms a n c xs left w hI hh h0 h1
theorem eqK_Atoms {fz fz':Bool} {lo hi lo' hi':Nat} (a a':Option Addr) (n c n' c':Nat) (xs:List AtomD) (w:World) (hI:AtomsA fz lo hi w a n c xs) (hh:hi≤w.heap.size) (hJ:AtomsA fz' lo' hi' w a' n' c' xs) (hh':hi'≤w.heap.size) :
 Calls Tryd.prog 33 #[.slice a n c,.slice a' n' c'] w (Leaves w (.bool true)):=eqAtoms a a' n c n' c' xs w hI hh hJ hh'
end Go.Proofs.YteiaofkgbdlpoaaDoor
namespace Go.Proofs.YteiaofkgbdlpoaaDoor
set_option linter.unusedSimpArgs false
set_option linter.unusedVariables false
open Go.RowKit
abbrev queryV (nv:Int) (a:Option Addr) (n:Nat) (c:Nat) (ua:Option Addr) (un:Nat) (uc:Nat):Value:=.agg #[.int .i64 nv,.slice a n c,.slice ua un uc]
def QueryA (fz:Bool) (lo hi:Nat) (w:World) (nv:Int) (a:Option Addr) (n:Nat) (c:Nat) (xs:List AtomD) (ua:Option Addr) (un:Nat) (uc:Nat) (us:List Int):Prop:=I64 nv∧AtomsA fz (lo) hi w a n c xs∧IntsA fz (lo) hi w ua un uc us
theorem beQuery {fz:Bool} {lo hi B:Nat} {w w':World} {nv:Int} {a:Option Addr} {n:Nat} {c:Nat} {xs:List AtomD} {ua:Option Addr} {un:Nat} {uc:Nat} {us:List Int} (h:QueryA fz lo hi w nv a n c xs ua un uc us) (hb:Below B w w') (hh:hi≤B):QueryA fz lo hi w' nv a n c xs ua un uc us:=⟨h.1,beAtoms h.2.1 hb hh,beInts h.2.2 hb hh⟩
theorem kpQuery {fz:Bool} {lo hi:Nat} {w w':World} {nv:Int} {a:Option Addr} {n:Nat} {c:Nat} {xs:List AtomD} {ua:Option Addr} {un:Nat} {uc:Nat} {us:List Int} (h:QueryA fz lo hi w nv a n c xs ua un uc us) (hb:Keeps lo hi w w'):QueryA fz lo hi w' nv a n c xs ua un uc us:=⟨h.1,kpAtoms h.2.1 hb,kpInts h.2.2 hb⟩
theorem wdQuery {fz:Bool} {lo hi lo':Nat} {w:World} {nv:Int} {a:Option Addr} {n:Nat} {c:Nat} {xs:List AtomD} {ua:Option Addr} {un:Nat} {uc:Nat} {us:List Int} (h:QueryA fz lo hi w nv a n c xs ua un uc us) (hl:lo'≤lo):QueryA fz lo' hi w nv a n c xs ua un uc us:=⟨h.1,wdAtoms h.2.1 hl,wdInts h.2.2 hl⟩
def szQuery (xs:List AtomD) (us:List Int):Nat:=atomsSz xs+us.length
set_option maxHeartbeats 1600000 in
theorem szK_Query {fz:Bool} {lo hi:Nat} (nv:Int) (a:Option Addr) (n:Nat) (c:Nat) (xs:List AtomD) (ua:Option Addr) (un:Nat) (uc:Nat) (us:List Int) (left:Int) (w:World) (hI:QueryA fz lo hi w nv a n c xs ua un uc us) (hh:hi≤w.heap.size) (h0:0≤left) (h1:left≤1048576) :
 Calls Tryd.prog 6 #[queryV nv a n c ua un uc,.int .i64 left] w (Leaves w (.int .i64 (szI (szQuery xs us) left))):=by
 have DF1:=hid hI.2.1
 have DF2:=hid hI.2.2
 clear hI
 go_enter Tryd.func6,Tryd.ntmps6
 go_wp2_with fail
 refine (szK_Atoms a n c xs left _ (beAtoms (B:=w.heap.size) DF1.out belA leA) leA (by omega) (by omega)).mono ?_
 rintro e u1 ⟨rfl,hb⟩
 have hc:Below w.heap.size w u1:=Below.trans belA (hb.mono leA)
 have z1:w.heap.size≤u1.heap.size:=hc.size
 have B0c0:u1.cell? ⟨w.heap.size,0,none⟩=some (.int .i64 nv):=(by rw [(bcell hb).1 _ _ (by first | omega | (simp;done) | (simp;omega))];first | with_reducible assumption | (go_simp;done) | assumption | (simp [World.cell?];done))
 have B0c1:u1.cell? ⟨w.heap.size,1,none⟩=some (.slice a n c):=(by rw [(bcell hb).1 _ _ (by first | omega | (simp;done) | (simp;omega))];first | with_reducible assumption | (go_simp;done) | assumption | (simp [World.cell?];done))
 have B0c2:u1.cell? ⟨w.heap.size,2,none⟩=some (.slice ua un uc):=(by rw [(bcell hb).1 _ _ (by first | omega | (simp;done) | (simp;omega))];first | with_reducible assumption | (go_simp;done) | assumption | (simp [World.cell?];done))
 have B0p:w.heap.size<u1.heap.size:=World.block_lt_of_cell? _ _ B0c0
 have B0s:w.heap.size<u1.heap.size:=B0p
 replace DF1:Hid (AtomsA fz (lo) hi u1 a n c xs):=hid (beAtoms DF1.out hc (by omega))
 replace DF2:Hid (IntsA fz (lo) hi u1 ua un uc us):=hid (beInts DF2.out hc (by omega))
 have HW:=hid hc
 clear hb hc
 by_cases hsz1:(atomsSz xs:Int)≤left
 ·rw [szI_yes hsz1]
  obtain ⟨left0,hleft0⟩:∃ l,l=left - (atomsSz xs:Int):=⟨_,rfl⟩
  rw [← hleft0]
  have hlo0:0≤left0:=by omega
  have hhi0:left0≤1048576:=by omega
  have HQ1:=hid (And.intro hsz1 hleft0);clear hsz1 hleft0
  go_wp2_with fail
  refine (szK_Ints ua un uc us left0 _ (beInts (B:=u1.heap.size) DF2.out belA leA) (by omega) (by omega)).mono ?_
  rintro e u2 hg;obtain ⟨rfl,hb⟩:=Gives.leaves hg;clear hg
  have hc:Below u1.heap.size u1 u2:=Below.trans belA (hb.mono leA)
  have z2:u1.heap.size≤u2.heap.size:=hc.size
  replace B0c0:u2.cell? ⟨w.heap.size,0,none⟩=some (.int .i64 nv):=(by rw [(bcell hc).1 _ _ B0s];exact B0c0)
  replace B0c1:u2.cell? ⟨w.heap.size,1,none⟩=some (.slice a n c):=(by rw [(bcell hc).1 _ _ B0s];exact B0c1)
  replace B0c2:u2.cell? ⟨w.heap.size,2,none⟩=some (.slice ua un uc):=(by rw [(bcell hc).1 _ _ B0s];exact B0c2)
  replace B0s:w.heap.size<u2.heap.size:=(by omega)
  replace DF1:Hid (AtomsA fz (lo) hi u2 a n c xs):=hid (beAtoms DF1.out hc (by omega))
  replace DF2:Hid (IntsA fz (lo) hi u2 ua un uc us):=hid (beInts DF2.out hc (by omega))
  replace HW:Hid (Below w.heap.size w u2):=hid (Below.calm HW.out hc)
  clear hb hc
  by_cases hsz2:(us.length:Int)≤left0
  ·rw [szI_yes hsz2]
   obtain ⟨left1,hleft1⟩:∃ l,l=left0 - (us.length:Int):=⟨_,rfl⟩
   rw [← hleft1]
   have hlo1:0≤left1:=by omega
   have hhi1:left1≤1048576:=by omega
   have HQ2:=hid (And.intro hsz2 hleft1);clear hsz2 hleft1
   have HE:Hid (szI (szQuery xs us) left=left1):=hid (by have g1:=HQ1.out;have g2:=HQ2.out;rw [szI_yes (by unfold szQuery;omega)];unfold szQuery;omega)
   go_wp2_with fail
   go_ret
   exact ⟨by rw [HE.out];rfl,HW.out⟩
  ·rw [szI_no hsz2]
   have HQ2:=hid (szI_no (n:=szQuery xs us) (left:=left) (by unfold szQuery;have:=HQ1.out.2;omega));clear hsz2
   go_wp2_with fail
   go_ret
   exact ⟨by rw [HQ2.out];rfl,HW.out⟩
 ·rw [szI_no hsz1]
  have HQ1:=hid (szI_no (n:=szQuery xs us) (left:=left) (by unfold szQuery;  omega));clear hsz1
  go_wp2_with fail
  go_ret
  exact ⟨by rw [HQ1.out];rfl,HW.out⟩
set_option maxHeartbeats 1600000 in
theorem eqK_Query {fz fz':Bool} {lo hi lo' hi':Nat} (nv:Int) (a:Option Addr) (n:Nat) (c:Nat) (xs:List AtomD) (ua:Option Addr) (un:Nat) (uc:Nat) (us:List Int) (a_:Option Addr) (n_:Nat) (c_:Nat) (ua_:Option Addr) (un_:Nat) (uc_:Nat) (w:World) (hI:QueryA fz lo hi w nv a n c xs ua un uc us) (hh:hi≤w.heap.size) (hJ:QueryA fz' lo' hi' w nv a_ n_ c_ xs ua_ un_ uc_ us) (hh':hi'≤w.heap.size) :
 Calls Tryd.prog 11 #[queryV nv a n c ua un uc,queryV nv a_ n_ c_ ua_ un_ uc_] w (Leaves w (.bool true)):=by
 have DF1:=hid hI.2.1
 have DG1:=hid hJ.2.1
 have DF2:=hid hI.2.2
 have DG2:=hid hJ.2.2
 have hne0:(nv != nv)=false:=by simp
 clear hI hJ
 go_enter Tryd.func11,Tryd.ntmps11
 go_wp2_with fail
 refine (eqK_Atoms a a_ n c n_ c_ xs _ (beAtoms (B:=w.heap.size) DF1.out belA leA) leA (beAtoms (B:=w.heap.size) DG1.out belA leA) leA).mono ?_
 rintro e u1 ⟨rfl,hb⟩
 have hc:Below w.heap.size w u1:=Below.trans belA (hb.mono leA)
 have z1:w.heap.size≤u1.heap.size:=hc.size
 have B0c0:u1.cell? ⟨w.heap.size,0,none⟩=some (.int .i64 nv):=(by rw [(bcell hb).1 _ _ (by first | omega | (simp;done) | (simp;omega))];first | with_reducible assumption | (go_simp;done) | assumption | (simp [World.cell?];done))
 have B0c1:u1.cell? ⟨w.heap.size,1,none⟩=some (.slice a n c):=(by rw [(bcell hb).1 _ _ (by first | omega | (simp;done) | (simp;omega))];first | with_reducible assumption | (go_simp;done) | assumption | (simp [World.cell?];done))
 have B0c2:u1.cell? ⟨w.heap.size,2,none⟩=some (.slice ua un uc):=(by rw [(bcell hb).1 _ _ (by first | omega | (simp;done) | (simp;omega))];first | with_reducible assumption | (go_simp;done) | assumption | (simp [World.cell?];done))
 have B0p:w.heap.size<u1.heap.size:=World.block_lt_of_cell? _ _ B0c0
 have B0s:w.heap.size<u1.heap.size:=B0p
 have B1c0:u1.cell? ⟨w.heap.size+1,0,none⟩=some (.int .i64 nv):=(by rw [(bcell hb).1 _ _ (by first | omega | (simp;done) | (simp;omega))];first | with_reducible assumption | (go_simp;done) | assumption | (simp [World.cell?];done))
 have B1c1:u1.cell? ⟨w.heap.size+1,1,none⟩=some (.slice a_ n_ c_):=(by rw [(bcell hb).1 _ _ (by first | omega | (simp;done) | (simp;omega))];first | with_reducible assumption | (go_simp;done) | assumption | (simp [World.cell?];done))
 have B1c2:u1.cell? ⟨w.heap.size+1,2,none⟩=some (.slice ua_ un_ uc_):=(by rw [(bcell hb).1 _ _ (by first | omega | (simp;done) | (simp;omega))];first | with_reducible assumption | (go_simp;done) | assumption | (simp [World.cell?];done))
 have B1p:w.heap.size+1<u1.heap.size:=World.block_lt_of_cell? _ _ B1c0
 have B1s:w.heap.size+1<u1.heap.size:=B1p
 replace DF1:Hid (AtomsA fz (lo) hi u1 a n c xs):=hid (beAtoms DF1.out hc (by omega))
 replace DG1:Hid (AtomsA fz' (lo') hi' u1 a_ n_ c_ xs):=hid (beAtoms DG1.out hc (by omega))
 replace DF2:Hid (IntsA fz (lo) hi u1 ua un uc us):=hid (beInts DF2.out hc (by omega))
 replace DG2:Hid (IntsA fz' (lo') hi' u1 ua_ un_ uc_ us):=hid (beInts DG2.out hc (by omega))
 have HW:=hid hc
 clear hb hc
 go_wp2_with fail
 refine (eqK_Ints ua ua_ un uc un_ uc_ us _ (beInts (B:=u1.heap.size) DF2.out belA leA) (beInts (B:=u1.heap.size) DG2.out belA leA)).mono ?_
 rintro e u2 hg;obtain ⟨rfl,hb⟩:=Gives.leaves hg;clear hg
 have hc:Below u1.heap.size u1 u2:=Below.trans belA (hb.mono leA)
 have z2:u1.heap.size≤u2.heap.size:=hc.size
 replace B0c0:u2.cell? ⟨w.heap.size,0,none⟩=some (.int .i64 nv):=(by rw [(bcell hc).1 _ _ B0s];exact B0c0)
 replace B0c1:u2.cell? ⟨w.heap.size,1,none⟩=some (.slice a n c):=(by rw [(bcell hc).1 _ _ B0s];exact B0c1)
 replace B0c2:u2.cell? ⟨w.heap.size,2,none⟩=some (.slice ua un uc):=(by rw [(bcell hc).1 _ _ B0s];exact B0c2)
 replace B0s:w.heap.size<u2.heap.size:=(by omega)
 replace B1c0:u2.cell? ⟨w.heap.size+1,0,none⟩=some (.int .i64 nv):=(by rw [(bcell hc).1 _ _ B1s];exact B1c0)
 replace B1c1:u2.cell? ⟨w.heap.size+1,1,none⟩=some (.slice a_ n_ c_):=(by rw [(bcell hc).1 _ _ B1s];exact B1c1)
 replace B1c2:u2.cell? ⟨w.heap.size+1,2,none⟩=some (.slice ua_ un_ uc_):=(by rw [(bcell hc).1 _ _ B1s];exact B1c2)
 replace B1s:w.heap.size+1<u2.heap.size:=(by omega)
 replace DF1:Hid (AtomsA fz (lo) hi u2 a n c xs):=hid (beAtoms DF1.out hc (by omega))
 replace DG1:Hid (AtomsA fz' (lo') hi' u2 a_ n_ c_ xs):=hid (beAtoms DG1.out hc (by omega))
 replace DF2:Hid (IntsA fz (lo) hi u2 ua un uc us):=hid (beInts DF2.out hc (by omega))
 replace DG2:Hid (IntsA fz' (lo') hi' u2 ua_ un_ uc_ us):=hid (beInts DG2.out hc (by omega))
 replace HW:Hid (Below w.heap.size w u2):=hid (Below.calm HW.out hc)
 clear hb hc
 go_wp2_with fail
 go_ret
 exact ⟨rfl,HW.out⟩
def cntQuery (xs:List AtomD) (us:List Int):Nat:=atomCnt xs xs.length+us.length
def GvQuery (w:World) (nv:Int) (xs:List AtomD) (us:List Int) (e:Ending) (w':World):Prop:=∃ a n c ua un uc,e=.returned (queryV nv a n c ua un uc)∧QueryA true w.heap.size w'.heap.size w' nv a n c xs ua un uc us∧Below w.heap.size w w'
set_option maxHeartbeats 3200000 in
theorem toK_Query {lo hi:Nat} (nv:Int) (a:Option Addr) (n:Nat) (c:Nat) (xs:List AtomD) (ua:Option Addr) (un:Nat) (uc:Nat) (us:List Int) (w:World) (hI:QueryA false lo hi w nv a n c xs ua un uc us) (hh:hi≤w.heap.size) (hs:szQuery xs us≤1048576) :
 Calls Tryd.prog 8 #[queryV nv a n c ua un uc] w (GvQuery w nv xs us):=by
 have DF1:=hid hI.2.1
 have DF2:=hid hI.2.2
 have DF0:=hid hI.1
 clear hI
 have HS1:Hid (atomsSz xs≤1048576):=hid (by unfold szQuery at hs;omega)
 have HS2:Hid (us.length≤1048576):=hid (by unfold szQuery at hs;omega)
 clear hs
 go_enter Tryd.func8,Tryd.ntmps8
 go_wp2_with fail
 refine (toK_Atoms a n c xs _ (beAtoms (B:=w.heap.size) DF1.out belA hh) leA HS1.out).mono ?_
 rintro e u1 ⟨aR,nR,cR,rfl,ho,hb⟩
 have hz:w.heap.size+3≤u1.heap.size:=by have:=hb.size;simp at this;omega
 have hc:Below w.heap.size w u1:=Below.trans belA (hb.mono (by simp;omega))
 replace DF2:Hid (IntsA false (lo) hi u1 ua un uc us):=hid (beInts (B:=w.heap.size) DF2.out hc (by omega))
 have a0:u1.cell? ⟨w.heap.size,0,none⟩=some (.int .i64 nv):=(by rw [(bcell hb).1 _ _ (by first | omega | (simp;done) | (simp;omega))];first | with_reducible assumption | (go_simp;done) | assumption | (simp [World.cell?];done))
 have a1:u1.cell? ⟨w.heap.size,1,none⟩=some (.slice a n c):=(by rw [(bcell hb).1 _ _ (by first | omega | (simp;done) | (simp;omega))];first | with_reducible assumption | (go_simp;done) | assumption | (simp [World.cell?];done))
 have a2:u1.cell? ⟨w.heap.size,2,none⟩=some (.slice ua un uc):=(by rw [(bcell hb).1 _ _ (by first | omega | (simp;done) | (simp;omega))];first | with_reducible assumption | (go_simp;done) | assumption | (simp [World.cell?];done))
 have q0:u1.cell? ⟨w.heap.size+1,0,none⟩=some (.int .i64 0):=(by rw [(bcell hb).1 _ _ (by first | omega | (simp;done) | (simp;omega))];first | with_reducible assumption | (go_simp;done) | assumption | (simp [World.cell?];done))
 have qf0:u1.frozen? ⟨w.heap.size+1,0,none⟩=false:=(by rw [(bcell hb).2 _ _ (by first | omega | (simp;done) | (simp;omega))];first | with_reducible assumption | (go_simp;done) | assumption | (simp [World.frozen?];done))
 have q1:u1.cell? ⟨w.heap.size+1,1,none⟩=some (.slice none 0 0):=(by rw [(bcell hb).1 _ _ (by first | omega | (simp;done) | (simp;omega))];first | with_reducible assumption | (go_simp;done) | assumption | (simp [World.cell?];done))
 have qf1:u1.frozen? ⟨w.heap.size+1,1,none⟩=false:=(by rw [(bcell hb).2 _ _ (by first | omega | (simp;done) | (simp;omega))];first | with_reducible assumption | (go_simp;done) | assumption | (simp [World.frozen?];done))
 have q2:u1.cell? ⟨w.heap.size+1,2,none⟩=some (.slice none 0 0):=(by rw [(bcell hb).1 _ _ (by first | omega | (simp;done) | (simp;omega))];first | with_reducible assumption | (go_simp;done) | assumption | (simp [World.cell?];done))
 have qf2:u1.frozen? ⟨w.heap.size+1,2,none⟩=false:=(by rw [(bcell hb).2 _ _ (by first | omega | (simp;done) | (simp;omega))];first | with_reducible assumption | (go_simp;done) | assumption | (simp [World.frozen?];done))
 have r0:u1.cell? ⟨w.heap.size+2,0,none⟩=some (.int .i64 nv):=(by rw [(bcell hb).1 _ _ (by first | omega | (simp;done) | (simp;omega))];first | with_reducible assumption | (go_simp;done) | assumption | (simp [World.cell?];done))
 have rf0:u1.frozen? ⟨w.heap.size+2,0,none⟩=false:=(by rw [(bcell hb).2 _ _ (by first | omega | (simp;done) | (simp;omega))];first | with_reducible assumption | (go_simp;done) | assumption | (simp [World.frozen?];done))
 have r1:u1.cell? ⟨w.heap.size+2,1,none⟩=some (.slice none 0 0):=(by rw [(bcell hb).1 _ _ (by first | omega | (simp;done) | (simp;omega))];first | with_reducible assumption | (go_simp;done) | assumption | (simp [World.cell?];done))
 have rf1:u1.frozen? ⟨w.heap.size+2,1,none⟩=false:=(by rw [(bcell hb).2 _ _ (by first | omega | (simp;done) | (simp;omega))];first | with_reducible assumption | (go_simp;done) | assumption | (simp [World.frozen?];done))
 have r2:u1.cell? ⟨w.heap.size+2,2,none⟩=some (.slice none 0 0):=(by rw [(bcell hb).1 _ _ (by first | omega | (simp;done) | (simp;omega))];first | with_reducible assumption | (go_simp;done) | assumption | (simp [World.cell?];done))
 have rf2:u1.frozen? ⟨w.heap.size+2,2,none⟩=false:=(by rw [(bcell hb).2 _ _ (by first | omega | (simp;done) | (simp;omega))];first | with_reducible assumption | (go_simp;done) | assumption | (simp [World.frozen?];done))
 have hI1:Hid (AtomsA true (w.heap.size+3) u1.heap.size u1 aR nR cR xs):=hid (by simpa using ho)
 have HW:=hid hc
 clear ho hb hc
 have hz1:w.heap.size+3≤u1.heap.size:=hz;clear hz
 go_wp2_with fail
 refine (toK_Ints ua un uc us _ (beInts (B:=w.heap.size) DF2.out belA (by omega)) leA HS2.out).mono ?_
 rintro e u2 ⟨uaR,unR,ucR,rfl,ho,hb⟩
 have hz:u1.heap.size≤u2.heap.size:=by have:=hb.size;simp only [szSet] at this;omega
 have hs2:Below w.heap.size u1 u2:=Below.trans (Below.setCell (Below.refl _ _) (by dsimp only;omega) _) (hb.mono (by simp only [szSet];omega))
 have hc:Below w.heap.size w u2:=HW.out.trans hs2
 replace a0:u2.cell? ⟨w.heap.size,0,none⟩=some (.int .i64 nv):=by rw [(bcell hb).1 _ _ (by simp only [szSet];omega)];rw [cset_other (by intro h;simp only [Addr.mk.injEq] at h;omega)];exact a0
 replace a1:u2.cell? ⟨w.heap.size,1,none⟩=some (.slice a n c):=by rw [(bcell hb).1 _ _ (by simp only [szSet];omega)];rw [cset_other (by intro h;simp only [Addr.mk.injEq] at h;omega)];exact a1
 replace a2:u2.cell? ⟨w.heap.size,2,none⟩=some (.slice ua un uc):=by rw [(bcell hb).1 _ _ (by simp only [szSet];omega)];rw [cset_other (by intro h;simp only [Addr.mk.injEq] at h;omega)];exact a2
 replace q0:u2.cell? ⟨w.heap.size+1,0,none⟩=some (.int .i64 0):=by rw [(bcell hb).1 _ _ (by simp only [szSet];omega)];rw [cset_other (by intro h;simp only [Addr.mk.injEq] at h;omega)];exact q0
 replace qf0:u2.frozen? ⟨w.heap.size+1,0,none⟩=false:=by rw [(bcell hb).2 _ _ (by simp only [szSet];omega)];simp only [fset];exact qf0
 replace q1:u2.cell? ⟨w.heap.size+1,1,none⟩=some (.slice none 0 0):=by rw [(bcell hb).1 _ _ (by simp only [szSet];omega)];rw [cset_other (by intro h;simp only [Addr.mk.injEq] at h;omega)];exact q1
 replace qf1:u2.frozen? ⟨w.heap.size+1,1,none⟩=false:=by rw [(bcell hb).2 _ _ (by simp only [szSet];omega)];simp only [fset];exact qf1
 replace q2:u2.cell? ⟨w.heap.size+1,2,none⟩=some (.slice none 0 0):=by rw [(bcell hb).1 _ _ (by simp only [szSet];omega)];rw [cset_other (by intro h;simp only [Addr.mk.injEq] at h;omega)];exact q2
 replace qf2:u2.frozen? ⟨w.heap.size+1,2,none⟩=false:=by rw [(bcell hb).2 _ _ (by simp only [szSet];omega)];simp only [fset];exact qf2
 replace r0:u2.cell? ⟨w.heap.size+2,0,none⟩=some (.int .i64 nv):=by rw [(bcell hb).1 _ _ (by simp only [szSet];omega)];rw [cset_other (by intro h;simp only [Addr.mk.injEq] at h;omega)];exact r0
 replace rf0:u2.frozen? ⟨w.heap.size+2,0,none⟩=false:=by rw [(bcell hb).2 _ _ (by simp only [szSet];omega)];simp only [fset];exact rf0
 replace r1:u2.cell? ⟨w.heap.size+2,1,none⟩=some (.slice aR nR cR):=by rw [(bcell hb).1 _ _ (by simp only [szSet];omega)];exact cset_same (u:=.slice none 0 0) r1
 replace rf1:u2.frozen? ⟨w.heap.size+2,1,none⟩=false:=by rw [(bcell hb).2 _ _ (by simp only [szSet];omega)];simp only [fset];exact rf1
 replace r2:u2.cell? ⟨w.heap.size+2,2,none⟩=some (.slice none 0 0):=by rw [(bcell hb).1 _ _ (by simp only [szSet];omega)];rw [cset_other (by intro h;simp only [Addr.mk.injEq] at h;omega)];exact r2
 replace rf2:u2.frozen? ⟨w.heap.size+2,2,none⟩=false:=by rw [(bcell hb).2 _ _ (by simp only [szSet];omega)];simp only [fset];exact rf2
 have hI2:Hid (IntsA true (u1.heap.size) u2.heap.size u2 uaR unR ucR us):=hid (by simpa using ho)
 replace hI1:Hid (AtomsA true (w.heap.size+3) u1.heap.size u2 aR nR cR xs):=hid (kpAtoms hI1.out (Keeps.trans (Keeps.sc (Keeps.refl _ _ _) (.inl (by omega)) _) (Keeps.of_below hb (by simp only [szSet];omega))))
 replace HW:=hid hc
 clear ho hb hc hs2
 have hz2:u1.heap.size≤u2.heap.size:=hz;clear hz
 go_wp2_with fail
 refine bodyPost_ret (v:=queryV nv aR nR cR uaR unR ucR) ?_ rfl ⟨_,_,_,_,_,_,rfl,?_,?_⟩
 ·(simp [results,Tryd.results8,go_sem,q0,q1,q2];done)
 ·exact ⟨DF0.out,(hgAtoms (wdAtoms (kpAtoms hI1.out (Keeps.sc (Keeps.sc (Keeps.sc (Keeps.sc (Keeps.refl _ _ _) (.inl (by omega)) _) (.inl (by omega)) _) (.inl (by omega)) _) (.inl (by omega)) _)) (by omega)) (by simp only [szSet];omega)),(hgInts (wdInts (kpInts hI2.out (Keeps.sc (Keeps.sc (Keeps.sc (Keeps.sc (Keeps.refl _ _ _) (.inl (by omega)) _) (.inl (by omega)) _) (.inl (by omega)) _) (.inl (by omega)) _)) (by omega)) (by simp only [szSet];omega))⟩
 ·exact Below.trans HW.out (Below.setCell (Below.setCell (Below.setCell (Below.setCell (Below.refl _ _) (by dsimp only;omega) _) (by dsimp only;omega) _) (by dsimp only;omega) _) (by dsimp only;omega) _)
theorem cntQuery_le (xs:List AtomD) (us:List Int):cntQuery xs us≤szQuery xs us:=by
 have:=atomCnt_le xs xs.length
 unfold cntQuery szQuery atomsSz;omega
set_option maxHeartbeats 1600000 in
theorem markK_Query {lo hi:Nat} (nv:Int) (a:Option Addr) (n c:Nat) (xs:List AtomD) (ua:Option Addr) (un uc:Nat) (us:List Int) (k:Int) (w:World) (hI:QueryA true lo hi w nv a n c xs ua un uc us) (hh:hi≤w.heap.size) (h0:0≤k) (h1:k≤2097152) (hs:szQuery xs us≤1048576) :
 Calls Tryd.prog 12 #[queryV nv a n c ua un uc,.int .i64 k] w (GivesMQ lo hi w (k+(cntQuery xs us:Nat))):=by
 obtain ⟨k,rfl⟩:=Int.eq_ofNat_of_zero_le h0
 have hlx:=hI.2.1.len
 have hlu:=hI.2.2.len
 have hsa:atomsSz xs≤1048576:=by unfold szQuery at hs;omega
 have hun:un≤1048576:=by unfold szQuery at hs;omega
 have hcn:k+atomCnt xs n≤3145728:=by have:=atomCnt_le xs xs.length;unfold atomsSz at hsa;rw [hlx] at this hsa;omega
 have HL:=hid (And.intro hlx hlu);clear hlx hlu
 have HS:=hid hsa;clear hsa hs
 have HI:=hid hI;clear hI
 obtain ⟨m,hm⟩:∃ m:Nat,m=k+atomCnt xs n:=⟨_,rfl⟩
 have hmb:m≤3145728:=by omega
 have HM:=hid hm;clear hm hcn
 go_enter Tryd.func12,Tryd.ntmps12
 go_wp2_with fail
 refine (markAtoms a n c xs k _ (beAtoms (B:=w.heap.size) HI.out.2.1 belA hh) leA (by omega) HS.out).mono ?_
 rintro e w1 ⟨rfl,hm1⟩
 rw [← HM.out]
 have hm2:MarkedQ lo hi w w1:=(MarkedQ.of (MarkedG.of_below belA)).trans hm1
 have c2:w1.cell? ⟨w.heap.size,2,none⟩=some (.slice ua un uc):=by rw [boxQ hm1 _ (by simp) (by omega)];first | (go_simp;done) | (simp [World.cell?];done)
 obtain ⟨ys,hy⟩:=HI.out.2.2.markedQ hm2
 have HY:=hid hy;clear hy
 have HM2:=hid hm2;clear hm1 hm2
 go_wp2_with fail
 refine (markInts ua un uc ys m _ HY.out (by omega) (by omega) hun).mono ?_
 rintro e w2 ⟨rfl,hm3,_⟩
 have HM3:=hid (HM2.out.trans (.of (.of_marked hm3)));clear hm3
 have HE:Hid ((m:Int)+un=(k:Int)+(cntQuery xs us:Nat)):=hid (by unfold cntQuery;rw [HL.out.1,HL.out.2,HM.out];omega)
 go_wp2_with fail
 go_ret
 exact ⟨by rw [← HE.out];rfl,HM3.out⟩
end Go.Proofs.YteiaofkgbdlpoaaDoor
