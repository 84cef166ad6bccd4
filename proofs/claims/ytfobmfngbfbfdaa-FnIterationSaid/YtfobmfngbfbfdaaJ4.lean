/- Lemmas for the proof of FnIteration, part 4 of 24: no condition of their own. -/
import Derived.Test.YtfobmfngbfbfdaaJ3
import Derived.Test.YtfobmfngbfbfdaaJ2
import Derived.Test.YtfobmfngbfbfdaaJ1
import Derived.Deep.RegionLaw
import Derived.Deep.AppendLies
import Derived.Deep.DeepCutAuto
import Derived.Deep.CutBlock
namespace Go.Proofs.Ytfobmfngbfbfdaa
set_option linter.unusedSimpArgs false
set_option linter.unusedVariables false
open Go.RowKit
theorem stands_inv {ar:Int} {rows:List (List Int)} {low high pos:List Int} (h:validIt ar rows low high pos=false):standsF ar rows low high pos=false:=by simp [standsF,h]
theorem stands_nil {ar:Int} {rows:List (List Int)} {low high pos:List Int} (h:pos.length=0):standsF ar rows low high pos=false:=by simp [standsF,h]
theorem stands_val {ar:Int} {rows:List (List Int)} {low high pos:List Int} (h:validIt ar rows low high pos=true) (h0:0<pos.length):standsF ar rows low high pos = !atEndF ar rows low high pos:=by simp [standsF,h,h0]
noncomputable def curKey (ar:Int) (rows:List (List Int)) (low high pos:List Int):Int:=if standsF ar rows low high pos=true then kx rows (px pos (pos.length - 1)) (pos.length - 1) else 0
theorem curKey_no {ar:Int} {rows:List (List Int)} {low high pos:List Int} (h:standsF ar rows low high pos=false):curKey ar rows low high pos=0:=by simp [curKey,h]
theorem curKey_yes {ar:Int} {rows:List (List Int)} {low high pos:List Int} (h:standsF ar rows low high pos=true):curKey ar rows low high pos=kx rows (px pos (pos.length - 1)) (pos.length - 1):=by simp [curKey,h]
abbrev intBool (x:Int) (b:Bool):Value:=.tuple #[.int .i64 x,.bool b]
set_option maxRecDepth 100000 in
set_option maxHeartbeats 6400000 in
theorem implStands {fz:Bool} {lo hi:Nat} (ar:Int) (a:Option Addr) (n c:Nat) (rows:List (List Int)) (la:Option Addr) (ln lc:Nat) (lw:List Int) (ga:Option Addr) (gn gc:Nat) (gh:List Int) (pa:Option Addr) (pn pc:Nat) (ps:List Int) (w:World)
 (hI:IterA fz lo hi w ar a n c rows la ln lc lw ga gn gc gh pa pn pc ps) (hh:hi≤w.heap.size) :
 Calls Try.prog 28 #[iterV ar a n c la ln lc ga gn gc pa pn pc] w (Leaves w (.bool (standsF ar rows lw gh ps))):=by
 have hl4:=hI.2.2.2.len
 have hs4:=hI.2.2.2.small
 have HL:=hid hl4;clear hl4
 have HI:=hid hI;clear hI
 obtain ⟨vb,hvb⟩:∃ vb,validIt ar rows lw gh ps=vb:=⟨_,rfl⟩
 have HVB:=hid hvb;clear hvb
 cases vb with
 | false =>
  have HF:=hid (stands_inv HVB.out)
  go_enter Try.func28,Try.ntmps28
  go_wp2_with fail
  refine (implValidIt ar a n c rows la ln lc lw ga gn gc gh pa pn pc ps _ (beIter (B:=w.heap.size) HI.out belA hh) leA).mono ?_
  rintro e w1 ⟨rfl,hb1⟩
  rw [HVB.out]
  have hb2:Below w.heap.size w w1:=Below.trans belA (hb1.mono leA)
  have HB:=hid hb2;clear hb1 hb2
  go_wp2_with fail
  go_ret
  exact ⟨by rw [HF.out];rfl,HB.out⟩
 | true =>
  go_enter Try.func28,Try.ntmps28
  go_wp2_with fail
  refine (implValidIt ar a n c rows la ln lc lw ga gn gc gh pa pn pc ps _ (beIter (B:=w.heap.size) HI.out belA hh) leA).mono ?_
  rintro e w1 ⟨rfl,hb1⟩
  rw [HVB.out]
  have hb2:Below w.heap.size w w1:=Below.trans belA (hb1.mono leA)
  have c0:w1.cell? ⟨w.heap.size,0,none⟩=some (.int .i64 ar):=(by rw [(bcell hb1).1 _ _ (by first | omega | (simp;done) | (simp;omega))];first | with_reducible assumption | (go_simp;done) | assumption | (simp [World.cell?];done))
  have c1:w1.cell? ⟨w.heap.size,1,none⟩=some (.slice a n c):=(by rw [(bcell hb1).1 _ _ (by first | omega | (simp;done) | (simp;omega))];first | with_reducible assumption | (go_simp;done) | assumption | (simp [World.cell?];done))
  have c2:w1.cell? ⟨w.heap.size,2,none⟩=some (.slice la ln lc):=(by rw [(bcell hb1).1 _ _ (by first | omega | (simp;done) | (simp;omega))];first | with_reducible assumption | (go_simp;done) | assumption | (simp [World.cell?];done))
  have c3:w1.cell? ⟨w.heap.size,3,none⟩=some (.slice ga gn gc):=(by rw [(bcell hb1).1 _ _ (by first | omega | (simp;done) | (simp;omega))];first | with_reducible assumption | (go_simp;done) | assumption | (simp [World.cell?];done))
  have c4:w1.cell? ⟨w.heap.size,4,none⟩=some (.slice pa pn pc):=(by rw [(bcell hb1).1 _ _ (by first | omega | (simp;done) | (simp;omega))];first | with_reducible assumption | (go_simp;done) | assumption | (simp [World.cell?];done))
  have hz:=hb2.size
  have HB:=hid hb2;clear hb1 hb2
  by_cases hp:pn=0
  ·have HF:=hid (stands_nil (ar:=ar) (rows:=rows) (low:=lw) (high:=gh) (pos:=ps) (by rw [HL.out];exact hp))
   subst hp
   go_wp2_with fail
   go_ret
   exact ⟨by rw [HF.out];rfl,HB.out⟩
  ·have HF:=hid (stands_val HVB.out (by rw [HL.out];omega))
   have hp0:0<pn:=by omega
   obtain ⟨eb,heb⟩:∃ eb,atEndF ar rows lw gh ps=eb:=⟨_,rfl⟩
   have HEB:=hid heb;clear heb
   go_wp2_with fail
   refine (implAtEnd ar a n c rows la ln lc lw ga gn gc gh pa pn pc ps _ (beIter HI.out HB.out hh) (by omega)).mono ?_
   rintro e w2 ⟨rfl,hb3⟩
   rw [HEB.out]
   have HB2:=hid (Below.calm HB.out hb3);clear hb3
   cases eb
   all_goals
    go_wp2_with fail
    go_ret
    exact ⟨by rw [HF.out,HEB.out];rfl,HB2.out⟩
set_option maxRecDepth 100000 in
set_option maxHeartbeats 6400000 in
theorem implCurKey {fz:Bool} {lo hi:Nat} (ar:Int) (a:Option Addr) (n c:Nat) (rows:List (List Int)) (la:Option Addr) (ln lc:Nat) (lw:List Int) (ga:Option Addr) (gn gc:Nat) (gh:List Int) (pa:Option Addr) (pn pc:Nat) (ps:List Int) (w:World)
 (hI:IterA fz lo hi w ar a n c rows la ln lc lw ga gn gc gh pa pn pc ps) (hh:hi≤w.heap.size) :
 Calls Try.prog 10 #[iterV ar a n c la ln lc ga gn gc pa pn pc] w (Leaves w (intBool (curKey ar rows lw gh ps) (standsF ar rows lw gh ps))):=by
 have hl4:=hI.2.2.2.len
 have hl1:=hI.1.2.len
 have hs1:=hI.1.2.small
 have hs4:=hI.2.2.2.small
 have HL:=hid (And.intro hl1 hl4);clear hl4 hl1
 have HI:=hid hI;clear hI
 obtain ⟨sb,hsb⟩:∃ sb,standsF ar rows lw gh ps=sb:=⟨_,rfl⟩
 have HST:=hid hsb
 rw [hsb]
 clear hsb
 cases sb with
 | false =>
  have HF:=hid (curKey_no HST.out)
  go_enter Try.func10,Try.ntmps10
  go_wp2_with fail
  refine (implStands ar a n c rows la ln lc lw ga gn gc gh pa pn pc ps _ (beIter (B:=w.heap.size) HI.out belA hh) leA).mono ?_
  rintro e w1 ⟨rfl,hb1⟩
  rw [HST.out]
  have hb2:Below w.heap.size w w1:=Below.trans belA (hb1.mono leA)
  have HB:=hid hb2;clear hb1 hb2
  go_wp2_with fail
  go_ret2
  exact ⟨by rw [HF.out];rfl,HB.out⟩
 | true =>
  go_enter Try.func10,Try.ntmps10
  go_wp2_with fail
  refine (implStands ar a n c rows la ln lc lw ga gn gc gh pa pn pc ps _ (beIter (B:=w.heap.size) HI.out belA hh) leA).mono ?_
  rintro e w1 ⟨rfl,hb1⟩
  rw [HST.out]
  have hb2:Below w.heap.size w w1:=Below.trans belA (hb1.mono leA)
  have c0:w1.cell? ⟨w.heap.size,0,none⟩=some (.int .i64 ar):=(by rw [(bcell hb1).1 _ _ (by first | omega | (simp;done) | (simp;omega))];first | with_reducible assumption | (go_simp;done) | assumption | (simp [World.cell?];done))
  have c1:w1.cell? ⟨w.heap.size,1,none⟩=some (.slice a n c):=(by rw [(bcell hb1).1 _ _ (by first | omega | (simp;done) | (simp;omega))];first | with_reducible assumption | (go_simp;done) | assumption | (simp [World.cell?];done))
  have c2:w1.cell? ⟨w.heap.size,2,none⟩=some (.slice la ln lc):=(by rw [(bcell hb1).1 _ _ (by first | omega | (simp;done) | (simp;omega))];first | with_reducible assumption | (go_simp;done) | assumption | (simp [World.cell?];done))
  have c3:w1.cell? ⟨w.heap.size,3,none⟩=some (.slice ga gn gc):=(by rw [(bcell hb1).1 _ _ (by first | omega | (simp;done) | (simp;omega))];first | with_reducible assumption | (go_simp;done) | assumption | (simp [World.cell?];done))
  have c4:w1.cell? ⟨w.heap.size,4,none⟩=some (.slice pa pn pc):=(by rw [(bcell hb1).1 _ _ (by first | omega | (simp;done) | (simp;omega))];first | with_reducible assumption | (go_simp;done) | assumption | (simp [World.cell?];done))
  have hz:=hb2.size
  have HB:=hid hb2;clear hb1 hb2
  obtain ⟨hv,l,hpn,hpx,hgx,hlt,hbn,hla,hrl⟩:=stands_out HST.out
  have hpn':pn=l+1:=by rw [← HL.out.2];exact hpn
  subst hpn'
  have HKX:=hid (curKey_yes HST.out)
  obtain ⟨p,hp⟩:∃ p,px ps l=p:=⟨_,rfl⟩
  rw [hp] at hpx hlt
  have hpn2:p<n:=by have h1:=HL.out.1;omega
  have hI1:=beIter HI.out HB.out hh
  obtain ⟨b,off,rfl⟩:=RowsA.some hI1.1.2 (show 0<n by omega)
  obtain ⟨b2,off2,rn,rc,y0,y1,y2,y3,y4,_⟩:=rowsKey (k:=l) hI1.1.2 hpn2 (by have:=hrl p (by have h1:=HL.out.1;omega);omega)
  obtain ⟨pb,po',rfl,d3,_⟩:=intsAt hI1.2.2.2 (show l<l+1 by omega)
  rw [hpx] at d3
  have hw1:IntKind.i64.wrap ((l:Int)+1 - 1)=l:=by rw [show (l:Int)+1 - 1=l by omega];exact IntWalk.i64_in _ (by omega)
  have hi1:(l:Int)<(l:Int)+1:=by omega
  have hi2:(p:Int)<(n:Int):=by omega
  have hi3:(l:Int)<(rn:Int):=by omega
  generalize hkk:kx rows p l=kk at *
  have HF:Hid (curKey ar rows lw gh ps=kk):=hid (by rw [HKX.out,hpn];simp only [Nat.add_sub_cancel];rw [hp];exact hkk)
  have HQ:=hid (And.intro hI1 (And.intro hpx (And.intro hp (And.intro hkk (And.intro hgx (And.intro hrl (And.intro hpn (And.intro hv hbn))))))));clear hI1 hpx hp hkk hgx hrl hpn hv hbn
  go_wp2_with fail
  go_quiet (fail)
  go_wp2_with fail
  go_ret2
  exact ⟨by rw [HF.out];rfl,below_drewN HB.out _⟩
end Go.Proofs.Ytfobmfngbfbfdaa
namespace Go.Proofs.Ytfobmfngbfbfdaa
set_option linter.unusedSimpArgs false
set_option linter.unusedVariables false
end Go.Proofs.Ytfobmfngbfbfdaa
namespace Go.Proofs.Ytfobmfngbfbfdaa
set_option linter.unusedSimpArgs false
set_option linter.unusedVariables false
open Go.RowKit
def ValsA (lo hi:Nat) (w:World) (a:Option Addr) (n c:Nat) (vs:List Value):Prop :=
 vs.length=n∧n≤c∧c≤maxLen∧(∀ u∈vs,u.oneCell'=true)∧(0<n→∃ b off,a=some ⟨b,off,none⟩∧lo≤b∧b<hi∧∀ i u,vs[i]? = some u→w.cell? ⟨b,off+i,none⟩=some u)∧(a=none→c=0)
section
variable {lo hi:Nat} {w w':World} {a:Option Addr} {n c:Nat} {vs:List Value}
theorem ValsA.len (h:ValsA lo hi w a n c vs):vs.length=n:=h.1
theorem ValsA.keep (h:ValsA lo hi w a n c vs) (hk:Keeps lo hi w w'):ValsA lo hi w' a n c vs:=by
 obtain ⟨h1,h2,h3,h4,h5,h6⟩:=h
 refine ⟨h1,h2,h3,h4,fun hn=>?_,h6⟩
 obtain ⟨b,off,ha,hl,hb,hc⟩:=h5 hn
 exact ⟨b,off,ha,hl,hb,fun i u hu=>by rw [World.cell?_of_block (w:=w) (hk b hl hb)];exact hc i u hu⟩
theorem ValsA.wide {lo' hi':Nat} (h:ValsA lo hi w a n c vs) (h1:lo'≤lo) (h2:hi≤hi'):ValsA lo' hi' w a n c vs:=by
 obtain ⟨g1,g2,g3,g4,g5,g6⟩:=h
 refine ⟨g1,g2,g3,g4,fun hn=>?_,g6⟩
 obtain ⟨b,off,ha,hl,hb,hc⟩:=g5 hn
 exact ⟨b,off,ha,by omega,by omega,hc⟩
theorem ValsA.drewN (h:ValsA lo hi w a n c vs) (k:Nat):ValsA lo hi (w.drewN k) a n c vs:=h
theorem ValsA.open (h:ValsA lo hi w a n c vs) (hn:0<n):∃ b off,a=some ⟨b,off,none⟩∧lo≤b∧b<hi∧∀ i u,vs[i]? = some u→w.cell? ⟨b,off+i,none⟩=some u:=h.2.2.2.2.1 hn
end
def OwnV (e:TypeId) (base:Nat) (w:World) (a:Option Addr) (n c:Nat) (vs:List Value):Prop:=w.ownsRow base e 1 (.slice a n c) n vs∧∀ u∈vs,u.oneCell'=true
theorem OwnV.len {e:TypeId} {base:Nat} {w:World} {a:Option Addr} {n c:Nat} {vs:List Value} (h:OwnV e base w a n c vs):vs.length=n:=by
 have:=h.1.1;omega
theorem OwnV.vals {e:TypeId} {base:Nat} {w:World} {a:Option Addr} {n c:Nat} {vs:List Value} (h:OwnV e base w a n c vs):ValsA base w.heap.size w a n c vs:=by
 have hlen:=h.len
 obtain ⟨ho,h1c⟩:=h
 have ho':=ho
 obtain ⟨h1,h2⟩:=ho
 rcases h2 with ⟨h2,h3⟩ | ⟨g,cap,cur,hv,hb,hg,hnc,hcm,hcs,htake⟩
 ·simp only [Value.slice.injEq] at h2
  obtain ⟨rfl,rfl,rfl⟩:=h2
  exact ⟨hlen,Nat.zero_le _,by simp [maxLen],h1c,fun h=>by omega,fun _=>rfl⟩
 ·simp only [Value.slice.injEq] at hv
  obtain ⟨rfl,_,rfl⟩:=hv
  refine ⟨hlen,hnc,hcm,h1c,fun _=>⟨g,0,rfl,hb,(Array.getElem?_eq_some_iff.1 hg).1,fun i u hu=>?_⟩,fun h=>(by cases h)⟩
  have h5:=ho'.cells (g:=g) rfl i u hu
  rwa [Addr.add_lit] at h5
theorem OwnV.keep {e:TypeId} {base:Nat} {w w':World} {a:Option Addr} {n c:Nat} {vs:List Value} (h:OwnV e base w a n c vs) (hk:Keeps base w.heap.size w w'):OwnV e base w' a n c vs:=by
 obtain ⟨⟨h1,h2⟩,h64⟩:=h
 refine ⟨⟨h1,?_⟩,h64⟩
 rcases h2 with h2 | ⟨g,cap,cur,hv,hb,hg,rest⟩
 ·exact .inl h2
 ·exact .inr ⟨g,cap,cur,hv,hb,by rw [hk g hb (Array.getElem?_eq_some_iff.1 hg).1];exact hg,rest⟩
theorem OwnV.alloc {e:TypeId} {base:Nat} {w:World} {a:Option Addr} {n c:Nat} {vs:List Value} (h:OwnV e base w a n c vs) (o:Obj):OwnV e base (w.alloc o) a n c vs:=⟨h.1.alloc o,h.2⟩
theorem OwnV.drewN {e:TypeId} {base:Nat} {w:World} {a:Option Addr} {n c:Nat} {vs:List Value} (h:OwnV e base w a n c vs) (k:Nat):OwnV e base (w.drewN k) a n c vs:=h
theorem ownV_nil (e:TypeId) (w:World) (base:Nat):OwnV e base w none 0 0 []:=⟨World.ownsRow_nil ..,fun _ h=>(by cases h)⟩
theorem vals_one (w:World) (g:Nat) (e:TypeId) (v:Value) (hv:v.oneCell'=true) (lo hi:Nat) (h1:lo≤g) (h2:g<hi) (hg:w.heap[g]? = some (.cells #[v] e (0,0))):ValsA lo hi w (some ⟨g,0,none⟩) 1 1 [v]:=by
 refine ⟨rfl,Nat.le_refl _,by simp [maxLen],by simpa using hv,fun _=>⟨g,0,rfl,h1,h2,fun i u hu=>?_⟩,fun h=>(by cases h)⟩
 match i,hu with
 | 0,hu=>cases hu;simp [World.cell?,hg]
structure Elem (t e:TypeId) (bytes:Nat):Prop where
 under:Try.prog.underlying t=some (.slice e)
 info:∃ i z,Try.prog.info? e=some i∧i.zero=some z∧i.size=1∧i.bytes=bytes∧z.cells.size=1
 small:bytes≤4096
theorem run_append_vals {t e bytes:Nat} (ht:Elem t e bytes) {lo hi:Nat} {w:World} (ty:TypeId) (base:Nat) (a1:Option Addr) (n1 c1:Nat) (vs:List Value) (hown:OwnV e base w a1 n1 c1 vs)
 (ao:Option Addr) (m c:Nat) (us:List Value) (hI:ValsA lo hi w ao m c us) (hb:n1+m≤16777216) (hbase:base≤w.heap.size) :
 ∃ a' c' w',(Builtin.append_ #[t,t] ty #[.slice a1 n1 c1,.slice ao m c]).run Try.prog w=.ok (.slice a' (n1+m) c') w'∧OwnV e base w' a' (n1+m) c' (vs ++ us)∧w.grownBy w' (Value.slice a1 n1 c1).ownBlock:=by
 obtain ⟨i0,z,hi0,hz0,hz1,hz2,hz3⟩:=ht.info
 have h1c:∀ u∈vs ++ us,u.oneCell'=true:=fun u hu=>(List.mem_append.1 hu).elim (hown.2 u) (hI.2.2.2.1 u)
 have hlen:=hI.len
 cases ao with
 | none =>
  have hc0:=hI.2.2.2.2.2 rfl
  have hm0:m=0:=by have:=hI.2.1;omega
  subst hc0;subst hm0
  have hys:us=[]:=List.eq_nil_of_length_eq_zero hlen
  subst hys
  exact ⟨a1,c1,w,run_append_owned_none (P:=Try.prog) (w:=w) base t ty e i0 1 ht.under hi0 _ n1 _ hown.1,by simpa using hown,World.grownBy.refl w _⟩
 | some ad =>
  obtain ⟨v',w',hr,hown',hgrow,_⟩:=run_append_own (P:=Try.prog) w base t ty e i0 z 1 bytes ht.under hi0 hz0 hz1 hz2 hz3 (by decide) _ n1 _ hown.1 ad m c us (by simp [hlen]) (fun j u hj=>by
   have hjm:j<m:=by have:=(List.getElem?_eq_some_iff.1 hj).1;omega
   obtain ⟨b,off,hab,_,_,hcell⟩:=hI.open (by omega)
   obtain rfl:ad=⟨b,off,none⟩:=by simpa using hab
   rw [Addr.add_lit];exact hcell j u hj) hI.2.2.2.1 (by unfold maxLen;omega) (by
    have h1:=ht.small
    have h2:(n1+m)*bytes≤16777216*4096:=Nat.mul_le_mul hb h1
    omega) hbase
  obtain ⟨a',c',rfl⟩:∃ a' c',v'=.slice a' (n1+m) c':=by
   rcases hown'.2 with ⟨rfl,hz⟩ | ⟨g,cap,cur,rfl,_⟩
   ·exact ⟨none,0,by rw [hz]⟩
   ·exact ⟨_,_,rfl⟩
  exact ⟨a',c',w',hr,⟨hown',h1c⟩,hgrow⟩
theorem wpAppV {t e bytes:Nat} (ht:Elem t e bytes) {lo hi:Nat} {w:World} {ops:Array Oper} {rest:List Oper} {o:Oper} {a:Act} {Q:Exit→Act→World→Prop} (hgd:o.guard=none) (s x:Operand)
 (ho:o.op=.call { callee:=.builtin .append,args:=#[s,x],argTypes:=#[t,t] })
 (base:Nat) (a1:Option Addr) (n1 c1:Nat) (vs:List Value) (hs:a.eval s=.slice a1 n1 c1) (hown:OwnV e base w a1 n1 c1 vs)
 (ao:Option Addr) (m c:Nat) (us:List Value) (hx:a.eval x=.slice ao m c) (hI:ValsA lo hi w ao m c us) (hb:n1+m≤16777216) (hbase:base≤w.heap.size)
 (h:∀ a' c' w',OwnV e base w' a' (n1+m) c' (vs ++ us)→w.grownBy w' (Value.slice a1 n1 c1).ownBlock→wpList Try.prog ops Q rest (a.put o.dst (.slice a' (n1+m) c')) w') :
 wpList Try.prog ops Q (o :: rest) a w:=by
 obtain ⟨a',c',w',hr,h2,h3⟩:=run_append_vals ht o.type base a1 n1 c1 vs hown ao m c us hI hb hbase
 refine wpList_plain hgd fun K hK=>?_
 unfold Oper.wp
 simp [execOp,ho,resolve,invoke,builtin,hs,hx,hr,Result.andThen]
 exact hK _ _ (h a' c' w' h2 h3)
theorem stepAppV {t e bytes:Nat} (ht:Elem t e bytes) {lo hi:Nat} {w:World} {ops:Array Oper} {o:Oper} {a:Act} {K:Act→World→Prop} {Q:Exit→Act→World→Prop} {E:Prop} (hgd:o.guard=none) (s x:Operand)
 (ho:o.op=.call { callee:=.builtin .append,args:=#[s,x],argTypes:=#[t,t] })
 (base:Nat) (a1:Option Addr) (n1 c1:Nat) (vs:List Value) (hs:a.eval s=.slice a1 n1 c1) (hown:OwnV e base w a1 n1 c1 vs)
 (ao:Option Addr) (m c:Nat) (us:List Value) (hx:a.eval x=.slice ao m c) (hI:ValsA lo hi w ao m c us) (hb:n1+m≤16777216) (hbase:base≤w.heap.size)
 (h:∀ a' c' w',OwnV e base w' a' (n1+m) c' (vs ++ us)→w.grownBy w' (Value.slice a1 n1 c1).ownBlock→K (a.put o.dst (.slice a' (n1+m) c')) w') :
 if Region.wanted o (yielded ops a.tmps)=true then Oper.wp Try.prog o a w K Q else E:=by
 obtain ⟨a',c',w',hr,h2,h3⟩:=run_append_vals ht o.type base a1 n1 c1 vs hown ao m c us hI hb hbase
 rw [if_pos (by simp [Region.wanted,hgd])]
 unfold Oper.wp
 simp [execOp,ho,resolve,invoke,builtin,hs,hx,hr,Result.andThen]
 exact h a' c' w' h2 h3
theorem elemInt:Elem 27 3 8:=⟨Try.underlying27,by obtain ⟨i0,h1,h2,h3,h4⟩:=info_parts infoInt;exact ⟨i0,_,h1,h2,h3,h4,rfl⟩,by omega⟩
end Go.Proofs.Ytfobmfngbfbfdaa
namespace Go.Proofs.Ytfobmfngbfbfdaa
set_option linter.unusedSimpArgs false
set_option linter.unusedVariables false
open Go.RowKit
abbrev RowP (α:Type):=Nat→Nat→World→Option Addr→Nat→Nat→α→Prop
structure RowPOK {α:Type} (Q:RowP α):Prop where
 keep:∀ {lo hi w w' a n c x},Q lo hi w a n c x→Keeps lo hi w w'→Q lo hi w' a n c x
 wide:∀ {lo hi lo' hi' w a n c x},Q lo hi w a n c x→lo'≤lo→hi≤hi'→Q lo' hi' w a n c x
def HeadI (w:World) (s t:Nat):Prop:=s<t→t=s+1∧∃ z:Int,w.cell? ⟨s,0,none⟩=some (.int .i64 z)
theorem HeadI.keep {w w':World} {s t lo hi:Nat} (h:HeadI w s t) (hk:Keeps lo hi w w') (h1:lo≤s) (h2:t≤hi):HeadI w' s t:=fun hlt=>by
 obtain ⟨g1,z,g2⟩:=h hlt
 exact ⟨g1,z,by rw [World.cell?_of_block (w:=w) (hk s h1 (by omega))];exact g2⟩
def SepV {α:Type} (Q:RowP α) (lo hi:Nat) (w:World) (vs:List Value) (xss:List α):Prop :=
 vs.length=xss.length∧∃ s t:Nat→Nat,(∀ i,i<xss.length→lo≤s i∧t i≤hi∧HeadI w (s i) (t i)∧∃ ra rn rc x,xss[i]? = some x∧vs[i]? = some (.slice ra rn rc)∧Q (s i) (t i) w ra rn rc x) ∧
  ∀ i j,i<xss.length→j<xss.length→i ≠ j→t i≤s j∨t j≤s i
section
variable {α:Type} {Q:RowP α} {lo hi lo' hi':Nat} {w w':World} {vs:List Value} {xss:List α}
theorem SepV.nil (Q:RowP α) (lo hi:Nat) (w:World):SepV Q lo hi w [] []:=⟨rfl,fun _=>0,fun _=>0,fun i hi=>by simp at hi,fun i j hi=>by simp at hi⟩
theorem SepV.keep (ok:RowPOK Q) (h:SepV Q lo hi w vs xss) (hk:Keeps lo hi w w'):SepV Q lo hi w' vs xss:=by
 obtain ⟨h1,s,t,h2,h3⟩:=h
 refine ⟨h1,s,t,fun i hi=>?_,h3⟩
 obtain ⟨g1,g2,g0,ra,rn,rc,x,g3,g4,g5⟩:=h2 i hi
 exact ⟨g1,g2,g0.keep hk g1 g2,ra,rn,rc,x,g3,g4,ok.keep g5 (hk.mono g1 g2)⟩
theorem SepV.wide (h:SepV Q lo hi w vs xss) (hl:lo'≤lo) (hh:hi≤hi'):SepV Q lo' hi' w vs xss:=by
 obtain ⟨h1,s,t,h2,h3⟩:=h
 refine ⟨h1,s,t,fun i hi=>?_,h3⟩
 obtain ⟨g1,g2,g⟩:=h2 i hi
 exact ⟨by omega,by omega,g⟩
theorem SepV.snoc (h:SepV Q lo hi w vs xss) {s' t':Nat} {ra:Option Addr} {rn rc:Nat} {x:α} (hx:Q s' t' w ra rn rc x) (hd:HeadI w s' t') (hl:lo≤s') (hs:hi≤s') (ht:t'≤hi') (hh:hi≤hi'):SepV Q lo hi' w (vs ++ [.slice ra rn rc]) (xss ++ [x]):=by
 obtain ⟨h1,s,t,h2,h3⟩:=h
 refine ⟨by simp [h1],fun i=>if i=xss.length then s' else s i,fun i=>if i=xss.length then t' else t i,fun i hi=>?_,fun i j hi hj hij=>?_⟩
 ·by_cases e:i=xss.length
  ·subst e
   simp only [if_true]
   exact ⟨hl,ht,hd,ra,rn,rc,x,by simp,by rw [← h1];simp,hx⟩
  ·simp only [if_neg e]
   have hi':i<xss.length:=by simp at hi;omega
   obtain ⟨g1,g2,g0,ra',rn',rc',y,g3,g4,g5⟩:=h2 i hi'
   exact ⟨g1,by omega,g0,ra',rn',rc',y,by rw [List.getElem?_append_left hi'];exact g3,by rw [List.getElem?_append_left (by omega)];exact g4,g5⟩
 ·simp at hi hj
  by_cases e:i=xss.length
  ·have e':j ≠ xss.length:=by omega
   simp only [if_pos e,if_neg e']
   have:=h2 j (by omega)
   omega
  ·by_cases e':j=xss.length
   ·simp only [if_neg e,if_pos e']
    have:=h2 i (by omega)
    omega
   ·simp only [if_neg e,if_neg e']
    exact h3 i j (by omega) (by omega) hij
theorem SepV.grown (ok:RowPOK Q) {e:TypeId} {base:Nat} {a:Option Addr} {n c:Nat} (h:SepV Q lo hi w vs xss) (ho:OwnV e base w a n c vs) (hg:w.grownBy w' (Value.slice a n c).ownBlock) (hh:hi≤w.heap.size):SepV Q lo hi w' vs xss:=by
 obtain ⟨h1,s,t,h2,h3⟩:=h
 have hlen:=ho.len
 have key:∀ i,i<xss.length→Keeps (s i) (t i) w w':=by
  intro i hi k hk1 hk2
  obtain ⟨g1,g2,g0,_⟩:=h2 i hi
  obtain ⟨ht,z,hz⟩:=g0 (by omega)
  obtain rfl:k=s i:=by omega
  refine hg.block _ (by omega) ?_
  intro e'
  have hn:0<n:=by omega
  obtain ⟨b,off,hb,_,_,hc⟩:=ho.vals.open hn
  have h0:=ho.1.2
  rcases h0 with ⟨h0,_⟩ | ⟨g,cap,cur,hv,_⟩
  ·simp only [Value.slice.injEq] at h0;omega
  ·simp only [Value.slice.injEq] at hv
   obtain ⟨rfl,_,rfl⟩:=hv
   simp only [Option.some.injEq,Addr.mk.injEq,and_true] at hb
   obtain ⟨rfl,rfl⟩:=hb
   simp only [Value.ownBlock,Option.some.injEq] at e'
   obtain ⟨_,_,_,ra,rn,rc,x,_,f4,_⟩:=h2 0 (by omega)
   have:=hc 0 _ f4
   rw [← e',Nat.zero_add,hz] at this
   cases this
 refine ⟨h1,s,t,fun i hi=>?_,h3⟩
 obtain ⟨g1,g2,g0,ra,rn,rc,x,g3,g4,g5⟩:=h2 i hi
 exact ⟨g1,g2,g0.keep (key i hi) (Nat.le_refl _) (Nat.le_refl _),ra,rn,rc,x,g3,g4,ok.keep g5 (key i hi)⟩
end
def SepA {α:Type} (Q:RowP α) (lo hi:Nat) (w:World) (a:Option Addr) (n c:Nat) (xss:List α):Prop :=
 xss.length=n∧n≤c∧c≤maxLen∧(0<n→∃ b off,a=some ⟨b,off,none⟩∧lo≤b∧b<hi∧∃ vs,SepV Q lo hi w vs xss∧∀ i u,vs[i]? = some u→w.cell? ⟨b,off+i,none⟩=some u∧w.frozen? ⟨b,off+i,none⟩=false)∧(a=none→c=0)
section
variable {α:Type} {Q:RowP α} {lo hi lo' hi':Nat} {w w':World} {a:Option Addr} {n c:Nat} {xss:List α}
theorem SepA.len (h:SepA Q lo hi w a n c xss):xss.length=n:=h.1
theorem SepA.keep (ok:RowPOK Q) (h:SepA Q lo hi w a n c xss) (hk:Keeps lo hi w w'):SepA Q lo hi w' a n c xss:=by
 obtain ⟨h1,h2,h3,h4,h5⟩:=h
 refine ⟨h1,h2,h3,fun hn=>?_,h5⟩
 obtain ⟨b,off,ha,hl,hb,vs,hv,hc⟩:=h4 hn
 refine ⟨b,off,ha,hl,hb,vs,hv.keep ok hk,fun i u hu=>?_⟩
 rw [World.cell?_of_block (w:=w) (hk b hl hb),World.frozen?_of_block (w:=w) (hk b hl hb)];exact hc i u hu
theorem SepA.wide (h:SepA Q lo hi w a n c xss) (h1:lo'≤lo) (h2:hi≤hi'):SepA Q lo' hi' w a n c xss:=by
 obtain ⟨g1,g2,g3,g4,g5⟩:=h
 refine ⟨g1,g2,g3,fun hn=>?_,g5⟩
 obtain ⟨b,off,ha,hl,hb,vs,hv,hc⟩:=g4 hn
 exact ⟨b,off,ha,by omega,by omega,vs,hv.wide h1 h2,hc⟩
theorem SepA.sl {R:Rep α} (hR:∀ {lo hi w ra rn rc x},Q lo hi w ra rn rc x→R true lo hi w [.slice ra rn rc] x) (ok:RepOK R) (h:SepA Q lo hi w a n c xss):SlA 1 R true lo hi w a n c xss:=by
 obtain ⟨h1,h2,h3,h4,h5⟩:=h
 refine ⟨h1,h2,h3,fun hn=>?_,h5⟩
 obtain ⟨b,off,ha,hl,hb,vs,hv,hc⟩:=h4 hn
 refine ⟨b,off,ha,hl,hb,fun i hi=>?_⟩
 obtain ⟨_,s,t,g1,_⟩:=hv
 obtain ⟨e1,e2,_,ra,rn,rc,x,e3,e4,e5⟩:=g1 i (by omega)
 refine ⟨[.slice ra rn rc],x,rfl,e3,ok.wide (hR e5) e1 e2,fun j hj=>?_⟩
 obtain rfl:j=0:=by omega
 have:=hc i _ e4
 exact ⟨by simpa using this.1,fun _=>by simpa using this.2⟩
theorem SepA.row (ok:RowPOK Q) {b off:Nat} (h:SepA Q lo hi w (some ⟨b,off,none⟩) n c xss) {i:Nat} (hi':i<n) {x:α} (hx:xss[i]? = some x) :
 ∃ s t ra rn rc,lo≤s∧t≤hi∧w.cell? ⟨b,off+i,none⟩=some (.slice ra rn rc)∧Q s t w ra rn rc x ∧
  ∀ w' y,Marked s t w w'→Q s t w' ra rn rc y→SepA Q lo hi w' (some ⟨b,off,none⟩) n c (xss.set i y):=by
 obtain ⟨h1,h2,h3,h4,h5⟩:=h
 obtain ⟨b',off',ha,hl,hb,vs,hv,hc⟩:=h4 (by omega)
 simp only [Option.some.injEq,Addr.mk.injEq,and_true] at ha
 obtain ⟨rfl,rfl⟩:=ha
 obtain ⟨k1,s,t,g1,g2⟩:=hv
 obtain ⟨e1,e2,e0,ra,rn,rc,x',e3,e4,e5⟩:=g1 i (by omega)
 rw [hx] at e3;cases e3
 refine ⟨s i,t i,ra,rn,rc,e1,e2,(hc i _ e4).1,e5,fun w' y hm hy=>?_⟩
 refine ⟨by simpa using h1,h2,h3,fun _=>⟨b,off,rfl,hl,hb,vs,⟨by simpa using k1,s,t,fun j hj=>?_,fun j k hj hk=>by simp at hj hk;exact g2 j k hj hk⟩,fun j u hu=>?_⟩,h5⟩
 ·simp at hj
  by_cases e:j=i
  ·subst e
   refine ⟨e1,e2,?_,ra,rn,rc,y,by rw [List.getElem?_set_self (by omega)],e4,hy⟩
   intro hlt
   obtain ⟨k3,z,k4⟩:=e0 hlt
   obtain ⟨v',q1,q2⟩:=hm.cell _ _ k4
   rcases q2 with rfl | ⟨_,z',_,rfl,_⟩
   ·exact ⟨k3,z,q1⟩
   ·exact ⟨k3,z',q1⟩
  ·obtain ⟨f1,f2,f0,ra',rn',rc',z,f3,f4,f5⟩:=g1 j hj
   have hkk:=hm.keeps (lo':=s j) (hi':=t j) (by have:=g2 j i hj (by omega) e;omega)
   exact ⟨f1,f2,f0.keep hkk (Nat.le_refl _) (Nat.le_refl _),ra',rn',rc',z,by rw [List.getElem?_set_ne (by omega)];exact f3,f4,ok.keep f5 hkk⟩
 ·obtain ⟨g3,g4⟩:=hc j u hu
  have hsl:∃ ra rn rc,u=.slice ra rn rc:=by
   have hj:j<xss.length:=by rw [← k1];exact (List.getElem?_eq_some_iff.1 hu).1
   obtain ⟨_,_,_,ra',rn',rc',_,_,f4,_⟩:=g1 j hj
   rw [hu] at f4;cases f4;exact ⟨_,_,_,rfl⟩
  obtain ⟨ra',rn',rc',rfl⟩:=hsl
  obtain ⟨v',q1,q2⟩:=hm.cell _ _ g3
  refine ⟨?_,by rw [hm.frz];exact g4⟩
  rcases q2 with rfl | ⟨_,_,h,_⟩
  ·exact q1
  ·cases h
end
theorem SepA.own {α:Type} {Q:RowP α} {e:TypeId} {base:Nat} {w:World} {a:Option Addr} {n c:Nat} {vs:List Value} {xss:List α} (h:OwnV e base w a n c vs) (hv:SepV Q base w.heap.size w vs xss):SepA Q base w.heap.size w a n c xss:=by
 have hlen:=h.len
 obtain ⟨h1,h2⟩:=h.1
 rcases h2 with ⟨h2,h3⟩ | ⟨g,cap,cur,hvv,hb,hg,hnc,hcm,hcs,htake⟩
 ·simp only [Value.slice.injEq] at h2
  obtain ⟨rfl,rfl,rfl⟩:=h2
  exact ⟨by rw [← hv.1];exact hlen,Nat.le_refl _,by simp [maxLen],fun h=>by omega,fun _=>rfl⟩
 ·have ho':=h.1
  simp only [Value.slice.injEq] at hvv
  obtain ⟨rfl,_,rfl⟩:=hvv
  refine ⟨by rw [← hv.1];exact hlen,hnc,hcm,fun _=>⟨g,0,rfl,hb,(Array.getElem?_eq_some_iff.1 hg).1,vs,hv,fun i u hu=>⟨?_,?_⟩⟩,fun h=>(by cases h)⟩
  ·have h5:=ho'.cells (g:=g) rfl i u hu
   rwa [Addr.add_lit] at h5
  ·exact frozen_of_row w g (0+i) cur _ hg
theorem Own.head {base:Nat} {w:World} {a:Option Addr} {n c:Nat} {xs:List Int} (h:Own base w a n c xs) (hb:base≤w.heap.size):∃ s t,base≤s∧t≤w.heap.size∧IntsA true s t w a n c xs∧HeadI w s t:=by
 have hi:=h.ints
 by_cases hn:0<n
 ·rcases h.1.2 with ⟨h2,h3⟩ | ⟨g,cap,cur,hv,hbg,hg,_⟩
  ·simp only [Value.slice.injEq] at h2;omega
  ·simp only [Value.slice.injEq] at hv
   obtain ⟨rfl,_,rfl⟩:=hv
   obtain ⟨b,off,ha,_,_,hc,hf⟩:=hi.open hn
   simp only [Option.some.injEq,Addr.mk.injEq,and_true] at ha
   obtain ⟨rfl,rfl⟩:=ha
   have hlt:g<w.heap.size:=(Array.getElem?_eq_some_iff.1 hg).1
   exact ⟨g,g+1,hbg,hlt,⟨hi.1,hi.2.1,hi.2.2.1,hi.2.2.2.1,fun _=>⟨g,0,rfl,Nat.le_refl _,by omega,fun i hi=>⟨hc i hi,fun hz=>hf hz i hi⟩⟩,fun h=>(by cases h)⟩,fun _=>⟨rfl,_,hc 0 hn⟩⟩
 ·exact ⟨base,base,Nat.le_refl _,hb,⟨hi.1,hi.2.1,hi.2.2.1,hi.2.2.2.1,fun h=>absurd h hn,hi.2.2.2.2.2⟩,fun h=>by omega⟩
end Go.Proofs.Ytfobmfngbfbfdaa
namespace Go.Proofs.Ytfobmfngbfbfdaa
set_option linter.unusedSimpArgs false
set_option linter.unusedVariables false
open Go.RowKit
def intsQ:RowP (List Int):=fun lo hi w a n c xs=>IntsA true lo hi w a n c xs
theorem intsQOK:RowPOK intsQ:=⟨fun h hk=>IntsA.keep h hk,fun h h1 h2=>IntsA.wide h h1 h2⟩
abbrev RowsS:=SepA intsQ
theorem RowsS.rows {lo hi:Nat} {w:World} {a:Option Addr} {n c:Nat} {xss:List (List Int)} (h:RowsS lo hi w a n c xss):RowsA true lo hi w a n c xss:=SepA.sl (R:=intsR) (fun {lo hi w ra rn rc x} h=>⟨ra,rn,rc,rfl,h⟩) intsOK h
end Go.Proofs.Ytfobmfngbfbfdaa
namespace Go.Proofs.Ytfobmfngbfbfdaa
set_option linter.unusedSimpArgs false
set_option linter.unusedVariables false
open Go.RowKit
def Apart4 (lo hi s0 t0 s1 t1 s2 t2 s3 t3:Nat):Prop:=(lo≤s0∧t0≤hi∧lo≤s1∧t1≤hi∧lo≤s2∧t2≤hi∧lo≤s3∧t3≤hi)∧(t0≤s1∨t1≤s0)∧(t0≤s2∨t2≤s0)∧(t0≤s3∨t3≤s0)∧(t1≤s2∨t2≤s1)∧(t1≤s3∨t3≤s1)∧(t2≤s3∨t3≤s2)
def IterS (lo hi:Nat) (w:World) (ar:Int) (a:Option Addr) (n c:Nat) (rows:List (List Int)) (la:Option Addr) (ln lc:Nat) (lw:List Int) (ga:Option Addr) (gn gc:Nat) (gh:List Int) (pa:Option Addr) (pn pc:Nat) (ps:List Int):Prop :=
 I64 ar∧∃ s0 t0 s1 t1 s2 t2 s3 t3,RowsS s0 t0 w a n c rows∧IntsA true s1 t1 w la ln lc lw∧IntsA true s2 t2 w ga gn gc gh∧IntsA true s3 t3 w pa pn pc ps∧Apart4 lo hi s0 t0 s1 t1 s2 t2 s3 t3
section
variable {lo hi B lo':Nat} {w w':World} {ar:Int} {a:Option Addr} {n c:Nat} {rows:List (List Int)} {la:Option Addr} {ln lc:Nat} {lw:List Int} {ga:Option Addr} {gn gc:Nat} {gh:List Int} {pa:Option Addr} {pn pc:Nat} {ps:List Int}
theorem IterS.it (h:IterS lo hi w ar a n c rows la ln lc lw ga gn gc gh pa pn pc ps):IterA true lo hi w ar a n c rows la ln lc lw ga gn gc gh pa pn pc ps:=by
 obtain ⟨h64,s0,t0,s1,t1,s2,t2,s3,t3,h0,h1,h2,h3,hA⟩:=h
 unfold Apart4 at hA
 exact ⟨⟨h64,SlA.wide intsOK h0.rows (by omega) (by omega)⟩,h1.wide (by omega) (by omega),h2.wide (by omega) (by omega),h3.wide (by omega) (by omega)⟩
theorem kpIterS (h:IterS lo hi w ar a n c rows la ln lc lw ga gn gc gh pa pn pc ps) (hb:Keeps lo hi w w'):IterS lo hi w' ar a n c rows la ln lc lw ga gn gc gh pa pn pc ps:=by
 obtain ⟨h64,s0,t0,s1,t1,s2,t2,s3,t3,h0,h1,h2,h3,hA⟩:=h
 have hA':=hA
 unfold Apart4 at hA'
 exact ⟨h64,s0,t0,s1,t1,s2,t2,s3,t3,SepA.keep intsQOK h0 (hb.mono (by omega) (by omega)),h1.keep (hb.mono (by omega) (by omega)),h2.keep (hb.mono (by omega) (by omega)),h3.keep (hb.mono (by omega) (by omega)),hA⟩
theorem wdIterS (h:IterS lo hi w ar a n c rows la ln lc lw ga gn gc gh pa pn pc ps) (hl:lo'≤lo):IterS lo' hi w ar a n c rows la ln lc lw ga gn gc gh pa pn pc ps:=by
 obtain ⟨h64,s0,t0,s1,t1,s2,t2,s3,t3,h0,h1,h2,h3,hA⟩:=h
 exact ⟨h64,s0,t0,s1,t1,s2,t2,s3,t3,h0,h1,h2,h3,by unfold Apart4 at *;omega⟩
theorem hgIterS {hi':Nat} (h:IterS lo hi w ar a n c rows la ln lc lw ga gn gc gh pa pn pc ps) (hl:hi≤hi'):IterS lo hi' w ar a n c rows la ln lc lw ga gn gc gh pa pn pc ps:=by
 obtain ⟨h64,s0,t0,s1,t1,s2,t2,s3,t3,h0,h1,h2,h3,hA⟩:=h
 exact ⟨h64,s0,t0,s1,t1,s2,t2,s3,t3,h0,h1,h2,h3,by unfold Apart4 at *;omega⟩
end
end Go.Proofs.Ytfobmfngbfbfdaa
namespace Go.Proofs.Ytfobmfngbfbfdaa
set_option linter.unusedSimpArgs false
set_option linter.unusedVariables false
open Go.RowKit
section
variable {k:Nat} {lo hi:Nat} {w w':World} {a:Option Addr} {n c:Nat} {vs:List Value}
def FlatA (k lo hi:Nat) (w:World) (a:Option Addr) (n c:Nat) (vs:List Value):Prop :=
 vs.length=n*k∧n≤c∧c≤maxLen∧(∀ u∈vs,u.oneCell'=true)∧(0<n→∃ b off,a=some ⟨b,off,none⟩∧lo≤b∧b<hi∧∀ i u,vs[i]? = some u→w.cell? ⟨b,off+i,none⟩=some u)∧(a=none→c=0)
theorem FlatA.len (h:FlatA k lo hi w a n c vs):vs.length=n*k:=h.1
theorem FlatA.keep (h:FlatA k lo hi w a n c vs) (hk:Keeps lo hi w w'):FlatA k lo hi w' a n c vs:=by
 obtain ⟨h1,h2,h3,h4,h5,h6⟩:=h
 refine ⟨h1,h2,h3,h4,fun hn=>?_,h6⟩
 obtain ⟨b,off,ha,hl,hb,hc⟩:=h5 hn
 exact ⟨b,off,ha,hl,hb,fun i u hu=>by rw [World.cell?_of_block (w:=w) (hk b hl hb)];exact hc i u hu⟩
theorem FlatA.wide {lo' hi':Nat} (h:FlatA k lo hi w a n c vs) (h1:lo'≤lo) (h2:hi≤hi'):FlatA k lo' hi' w a n c vs:=by
 obtain ⟨g1,g2,g3,g4,g5,g6⟩:=h
 refine ⟨g1,g2,g3,g4,fun hn=>?_,g6⟩
 obtain ⟨b,off,ha,hl,hb,hc⟩:=g5 hn
 exact ⟨b,off,ha,by omega,by omega,hc⟩
theorem FlatA.drewN (h:FlatA k lo hi w a n c vs) (m:Nat):FlatA k lo hi (w.drewN m) a n c vs:=h
theorem FlatA.open (h:FlatA k lo hi w a n c vs) (hn:0<n):∃ b off,a=some ⟨b,off,none⟩∧lo≤b∧b<hi∧∀ i u,vs[i]? = some u→w.cell? ⟨b,off+i,none⟩=some u:=h.2.2.2.2.1 hn
end
def OwnF (e:TypeId) (k base:Nat) (w:World) (a:Option Addr) (n c:Nat) (vs:List Value):Prop:=w.ownsRow base e k (.slice a n c) n vs∧∀ u∈vs,u.oneCell'=true
theorem OwnF.len {e:TypeId} {k base:Nat} {w:World} {a:Option Addr} {n c:Nat} {vs:List Value} (h:OwnF e k base w a n c vs):vs.length=n*k:=h.1.1
theorem OwnF.flat {e:TypeId} {k base:Nat} {w:World} {a:Option Addr} {n c:Nat} {vs:List Value} (h:OwnF e k base w a n c vs):FlatA k base w.heap.size w a n c vs:=by
 have hlen:=h.len
 obtain ⟨ho,h1c⟩:=h
 have ho':=ho
 obtain ⟨h1,h2⟩:=ho
 rcases h2 with ⟨h2,h3⟩ | ⟨g,cap,cur,hv,hb,hg,hnc,hcm,hcs,htake⟩
 ·simp only [Value.slice.injEq] at h2
  obtain ⟨rfl,rfl,rfl⟩:=h2
  exact ⟨hlen,Nat.zero_le _,by simp [maxLen],h1c,fun h=>by omega,fun _=>rfl⟩
 ·simp only [Value.slice.injEq] at hv
  obtain ⟨rfl,_,rfl⟩:=hv
  refine ⟨hlen,hnc,hcm,h1c,fun _=>⟨g,0,rfl,hb,(Array.getElem?_eq_some_iff.1 hg).1,fun i u hu=>?_⟩,fun h=>(by cases h)⟩
  have h5:=ho'.cells (g:=g) rfl i u hu
  rwa [Addr.add_lit] at h5
theorem OwnF.free {e:TypeId} {k base:Nat} {w:World} {g n c:Nat} {vs:List Value} (h:OwnF e k base w (some ⟨g,0,none⟩) n c vs) (i:Nat):w.frozen? ⟨g,i,none⟩=false:=by
 rcases h.1.2 with ⟨h2,h3⟩ | ⟨g',cap,cur,hv,hb,hg,_⟩
 ·simp at h2
 ·simp only [Value.slice.injEq,Option.some.injEq,Addr.mk.injEq,and_true] at hv
  obtain ⟨rfl,_,rfl⟩:=hv
  exact frozen_of_row w g i cur _ hg
theorem OwnF.head {e:TypeId} {k base:Nat} {w:World} {a:Option Addr} {n c:Nat} {vs:List Value} (h:OwnF e k base w a n c vs) (hn:0<n):∃ g,a=some ⟨g,0,none⟩∧base≤g∧g<w.heap.size:=by
 rcases h.1.2 with ⟨h2,h3⟩ | ⟨g',cap,cur,hv,hb,hg,_⟩
 ·omega
 ·simp only [Value.slice.injEq] at hv
  exact ⟨g',hv.1,hb,(Array.getElem?_eq_some_iff.1 hg).1⟩
theorem OwnF.low {e:TypeId} {k base base':Nat} {w:World} {a:Option Addr} {n c:Nat} {vs:List Value} (h:OwnF e k base w a n c vs) (hb:base'≤base):OwnF e k base' w a n c vs:=by
 obtain ⟨⟨h1,h2⟩,h64⟩:=h
 refine ⟨⟨h1,?_⟩,h64⟩
 rcases h2 with h2 | ⟨g,cap,cur,hv,hb',rest⟩
 ·exact .inl h2
 ·exact .inr ⟨g,cap,cur,hv,by omega,rest⟩
theorem OwnF.keep {e:TypeId} {k base:Nat} {w w':World} {a:Option Addr} {n c:Nat} {vs:List Value} (h:OwnF e k base w a n c vs) (hk:Keeps base w.heap.size w w'):OwnF e k base w' a n c vs:=by
 obtain ⟨⟨h1,h2⟩,h64⟩:=h
 refine ⟨⟨h1,?_⟩,h64⟩
 rcases h2 with h2 | ⟨g,cap,cur,hv,hb,hg,rest⟩
 ·exact .inl h2
 ·exact .inr ⟨g,cap,cur,hv,hb,by rw [hk g hb (Array.getElem?_eq_some_iff.1 hg).1];exact hg,rest⟩
theorem OwnF.alloc {e:TypeId} {k base:Nat} {w:World} {a:Option Addr} {n c:Nat} {vs:List Value} (h:OwnF e k base w a n c vs) (o:Obj):OwnF e k base (w.alloc o) a n c vs:=⟨h.1.alloc o,h.2⟩
theorem OwnF.drewN {e:TypeId} {k base:Nat} {w:World} {a:Option Addr} {n c:Nat} {vs:List Value} (h:OwnF e k base w a n c vs) (m:Nat):OwnF e k base (w.drewN m) a n c vs:=h
theorem ownF_nil (e:TypeId) (k:Nat) (w:World) (base:Nat):OwnF e k base w none 0 0 []:=⟨World.ownsRow_nil ..,fun _ h=>(by cases h)⟩
theorem ownF_empty (e:TypeId) (k:Nat) (w:World) (base g:Nat) (hb:base≤g) (hg:w.heap[g]? = some (.cells #[] e (0,0))):OwnF e k base w (some ⟨g,0,none⟩) 0 0 [] :=
 ⟨⟨by simp,.inr ⟨g,0,#[],rfl,hb,hg,Nat.le_refl _,by simp [maxLen],by simp,by simp⟩⟩,fun _ h=>(by cases h)⟩
structure ElemF (t e:TypeId) (k bytes:Nat):Prop where
 under:Try.prog.underlying t=some (.slice e)
 info:∃ i z,Try.prog.info? e=some i∧i.zero=some z∧i.size=k∧i.bytes=bytes∧z.cells.size=k
 small:bytes≤4096
 pos:0<k
theorem run_append_flat {t e k bytes:Nat} (ht:ElemF t e k bytes) {lo hi:Nat} {w:World} (ty:TypeId) (base:Nat) (a1:Option Addr) (n1 c1:Nat) (vs:List Value) (hown:OwnF e k base w a1 n1 c1 vs)
 (ao:Option Addr) (m c:Nat) (us:List Value) (hI:FlatA k lo hi w ao m c us) (hb:n1+m≤16777216) (hbase:base≤w.heap.size) :
 ∃ a' c' w',(Builtin.append_ #[t,t] ty #[.slice a1 n1 c1,.slice ao m c]).run Try.prog w=.ok (.slice a' (n1+m) c') w'∧OwnF e k base w' a' (n1+m) c' (vs ++ us)∧w.grownBy w' (Value.slice a1 n1 c1).ownBlock:=by
 obtain ⟨i0,z,hi0,hz0,hz1,hz2,hz3⟩:=ht.info
 have h1c:∀ u∈vs ++ us,u.oneCell'=true:=fun u hu=>(List.mem_append.1 hu).elim (hown.2 u) (hI.2.2.2.1 u)
 have hlen:=hI.len
 cases ao with
 | none =>
  have hc0:=hI.2.2.2.2.2 rfl
  have hm0:m=0:=by have:=hI.2.1;omega
  subst hc0;subst hm0
  have hys:us=[]:=List.eq_nil_of_length_eq_zero (by simpa using hlen)
  subst hys
  exact ⟨a1,c1,w,run_append_owned_none (P:=Try.prog) (w:=w) base t ty e i0 k ht.under hi0 _ n1 _ hown.1,by simpa using hown,World.grownBy.refl w _⟩
 | some ad =>
  obtain ⟨v',w',hr,hown',hgrow,_⟩:=run_append_own (P:=Try.prog) w base t ty e i0 z k bytes ht.under hi0 hz0 hz1 hz2 hz3 ht.pos _ n1 _ hown.1 ad m c us hlen (fun j u hj=>by
   have hjm:j<m*k:=by have:=(List.getElem?_eq_some_iff.1 hj).1;omega
   have hm0:0<m:=by
    rcases Nat.eq_zero_or_pos m with h | h
    ·subst h;simp at hjm
    ·exact h
   obtain ⟨b,off,hab,_,_,hcell⟩:=hI.open hm0
   obtain rfl:ad=⟨b,off,none⟩:=by simpa using hab
   rw [Addr.add_lit];exact hcell j u hj) hI.2.2.2.1 (by unfold maxLen;omega) (by
    have h1:=ht.small
    have h2:(n1+m)*bytes≤16777216*4096:=Nat.mul_le_mul hb h1
    omega) hbase
  obtain ⟨a',c',rfl⟩:∃ a' c',v'=.slice a' (n1+m) c':=by
   rcases hown'.2 with ⟨rfl,hz⟩ | ⟨g,cap,cur,rfl,_⟩
   ·exact ⟨none,0,by rw [hz]⟩
   ·exact ⟨_,_,rfl⟩
  exact ⟨a',c',w',hr,⟨hown',h1c⟩,hgrow⟩
end Go.Proofs.Ytfobmfngbfbfdaa
