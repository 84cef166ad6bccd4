/- Lemmas for the proof of FnExactMaximumPacking, part 26 of 27: no condition of their own. -/
import Derived.Test.YteiaofkgbdlpoaaDoorJ25
import Derived.Test.YteiaofkgbdlpoaaDoorJ24
import Derived.Test.YteiaofkgbdlpoaaDoorJ2
import Derived.Test.YteiaofkgbdlpoaaDoorJ23
import Derived.Test.YteiaofkgbdlpoaaDoorJ1
import Derived.ProofKit
import Derived.OpenShut
import Derived.ShutString
import Derived.ChangeOld
import Derived.Below
import Derived.Deep.Slices
import Derived.ChangeSame
namespace Go.Proofs.YteiaofkgbdlpoaaDoor
set_option linter.unusedSimpArgs false
set_option linter.unusedVariables false
open Go.RowKit
theorem CXk.mk {C:Nat→Nat→Prop} {w:World} {k:Nat}:∀ {m:List DV} {us:List Value},us.length=m.length*k→(∀ i x,m[i]? = some x→CX C w x ((us.drop (i*k)).take k))→CXk C w k m us
 | [],us,h,_=>List.eq_nil_of_length_eq_zero (by simpa using h)
 | x :: m,us,h,hh=>by
  have e:(x :: m).length*k=k+m.length*k:=by rw [List.length_cons,Nat.add_mul,Nat.one_mul,Nat.add_comm]
  rw [e] at h
  refine ⟨us.take k,us.drop k,(List.take_append_drop k us).symm,by simpa using hh 0 x rfl,by rw [List.length_take];omega,CXk.mk (by rw [List.length_drop,h];omega) fun i y hy=>?_⟩
  have:=hh (i+1) y (by simpa using hy)
  rw [List.drop_drop]
  rwa [show (i+1)*k=k+i*k by rw [Nat.add_mul,Nat.one_mul,Nat.add_comm]] at this
theorem atoms_cxc {C:Nat→Nat→Prop} {fz:Bool} {lo hi:Nat} {w:World} {a:Option Addr} {n c:Nat} {xs:List AtomD} (h:AtomsA fz lo hi w a n c xs) (hC:∀ b i,lo≤b→b<hi→w.cell? ⟨b,i,none⟩ ≠ none→C b i):CX C w (.sl 2 (xs.map atomDV)) [.slice a n c]:=by
 have hl:=h.len
 by_cases hn:n=0
 ·subst hn
  obtain rfl:xs=[]:=List.eq_nil_of_length_eq_zero hl
  exact ⟨a,0,c,[],rfl,rfl,rfl,rfl,h.2.1,h.2.2.1,h.2.2.2.2,fun _ h=>(by cases h),fun h=>absurd h (Nat.lt_irrefl 0)⟩
 ·obtain ⟨b,off,rfl⟩:=atomsSome h (by omega)
  have hv:∀ i,i<n*2→∃ u,w.cell? ⟨b,off+i,none⟩=some u∧u.oneCell'=true:=fun i hi=>by
   obtain ⟨_,_,_,ra,rn,rc,g1,g2,_⟩:=atomsAt h (show i / 2<n by omega)
   rcases Nat.mod_two_eq_zero_or_one i with e | e
   ·exact ⟨.string (ax xs (i / 2)).nm,by rw [← g1];congr 2;omega,rfl⟩
   ·exact ⟨.slice ra rn rc,by rw [← g2];congr 2;omega,rfl⟩
  have hvs:∀ i u,((List.range (n*2)).map (fun i=>(w.cell? ⟨b,off+i,none⟩).getD undef))[i]? = some u→i<n*2∧w.cell? ⟨b,off+i,none⟩=some u∧u.oneCell'=true:=fun i u hu=>by
   have hi:i<n*2:=by have:=(List.getElem?_eq_some_iff.1 hu).1;simpa using this
   obtain ⟨x,hx,h1⟩:=hv i hi
   rw [List.getElem?_map,List.getElem?_range hi,Option.map_some,hx] at hu
   cases hu
   exact ⟨hi,hx,h1⟩
  refine ⟨_,n,c,(List.range (n*2)).map (fun i=>(w.cell? ⟨b,off+i,none⟩).getD undef),rfl,by simpa using hl,CXk.mk (by simp [hl]) fun i x hx=>?_,by simp,h.2.1,h.2.2.1,h.2.2.2.2,fun u hu=>?_,fun _=>⟨b,off,rfl,fun i u hu=>?_⟩⟩
  ·rw [List.getElem?_map] at hx
   have hi:i<xs.length:=by
    cases e:xs[i]? with
    | none=>rw [e] at hx;cases hx
    | some y=>exact (List.getElem?_eq_some_iff.1 e).1
   rw [List.getElem?_eq_getElem hi,Option.map_some,← ax_lt hi] at hx
   cases hx
   obtain ⟨hb1,hb2,hsz,ra,rn,rc,g1,g2,g3,_⟩:=atomsAt h (show i<n by omega)
   have e:(((List.range (n*2)).map (fun i=>(w.cell? ⟨b,off+i,none⟩).getD undef)).drop (i*2)).take 2=[.string (ax xs i).nm,.slice ra rn rc]:=by
    apply List.ext_getElem?
    intro j
    rw [List.getElem?_take]
    split
    ·rename_i hj
     rw [List.getElem?_drop,List.getElem?_map,List.getElem?_range (by omega),Option.map_some]
     rcases (by omega:j=0∨j=1) with rfl | rfl
     ·simp [g1]
     ·rw [show off+(i*2+1)=off+i*2+1 by omega,g2];rfl
    ·rename_i hj
     rw [List.getElem?_eq_none (by simp;omega)]
   rw [e]
   exact ⟨[.string (ax xs i).nm],_,rfl,rfl,[.slice ra rn rc],[],rfl,ints_cxc g3 hC,rfl⟩
  ·obtain ⟨i,hi,rfl⟩:=List.mem_iff_getElem.1 hu
   exact (hvs i _ (List.getElem?_eq_getElem hi)).2.2
  ·obtain ⟨h1,h2,_⟩:=hvs i u hu
   obtain ⟨hb1,hb2,_⟩:=atomsAt h (show i / 2<n by omega)
   exact ⟨hC _ _ hb1 hb2 (by rw [h2];exact fun x=>(by cases x)),h2⟩
theorem nm_of {fz:Bool} {lo hi:Nat} {w:World} {a:Option Addr} {n c:Nat} {xs:List AtomD} (h:AtomsA fz lo hi w a n c xs):NmOK xs:=by
 intro x hx
 obtain ⟨i,hi,rfl⟩:=List.mem_iff_getElem.1 hx
 have hl:=h.len
 obtain ⟨b,off,rfl⟩:=atomsSome h (by omega)
 have:=(atomsAt h (show i<n by omega)).2.2.1
 rwa [ax_lt hi] at this
theorem query_cvs {fz:Bool} {lo hi lo':Nat} {w:World} {nv:Int} {a:Option Addr} {n c:Nat} {xs:List AtomD} {ua:Option Addr} {un uc:Nat} {us:List Int} (h:QueryA fz lo hi w nv a n c xs ua un uc us) (hh:hi≤w.heap.size) (hl:lo'≤lo) (G:Gh) (hG:G.C=cellsC lo' w):CV G w (.d (queryD nv xs us)) (queryV nv a n c ua un uc) :=
 cvAgg.2 ⟨[.int .i64 nv,.slice a n c,.slice ua un uc],⟨[.int .i64 nv],_,rfl,⟨rfl,h.1⟩,[.slice a n c],_,rfl,atoms_cxc h.2.1 (fun b i h1 h2 h3=>by rw [hG];exact ⟨by omega,by omega,h3⟩),[.slice ua un uc],[],rfl,ints_cxc h.2.2 (fun b i h1 h2 h3=>by rw [hG];exact ⟨by omega,by omega,h3⟩),rfl⟩,rfl⟩
end Go.Proofs.YteiaofkgbdlpoaaDoor
namespace Go.Proofs.YteiaofkgbdlpoaaDoor
set_option linter.unusedSimpArgs false
set_option linter.unusedVariables false
open Go.RowKit
section
variable {lo hi B:Nat} {w w':World}
theorem beGlob (h:GlobW w) (hb:Below B w w') (hh:1≤B):GlobW w':=h.below (hb.block 0 hh)
theorem kpGlob (h:GlobW w) (hb:Keeps 0 1 w w'):GlobW w':=h.below (hb 0 (Nat.le_refl _) (by omega))
end
theorem afnG_out {f:FuncId} {args:List AV} {X:AV} (h:AFnG f args (fun r os=>r=X∧os=[])) {w:World} (hg:GlobW w) {C0:Nat→Nat→Prop} (hC0:∀ b i,C0 b i→b<w.heap.size) {vs:List Value} (hv:∀ G:Gh,G.C=C0→CVs G w args vs):Calls Tryd.prog f vs.toArray w (Out C0 X w):=by
 refine (h.2 w ⟨C0,fun _=>.slice none 0 0,fun _=>0,fun _=>0,fun _=>0⟩ vs hg (hv _ rfl) hC0).mono ?_
 rintro e w' ⟨v,r,os,G',rfl,hp⟩
 obtain ⟨rfl,rfl⟩:=hp.post
 exact ⟨v,G',rfl,hp.res,⟨hp.fr.os,hp.fr.tape,hp.fr.output,hp.fr.size,fun k hk=>hp.fr.block k hk (fun ⟨i,hi,_⟩=>absurd hi (Nat.not_lt_zero _))⟩,hp.cs,hp.lc,hp.uf⟩
section
variable {fz:Bool} {lo hi:Nat} {w:World} {nv:Int} {a:Option Addr} {n c:Nat} {xs:List AtomD} {ua:Option Addr} {un uc:Nat} {us:List Int}
theorem specMC (h:QueryA fz lo hi w nv a n c xs ua un uc us) (hh:hi≤w.heap.size) (hlw:lo≤w.heap.size):Calls Tryd.prog 15 #[queryV nv a n c ua un uc] w (GvRatR lo w (mcF nv xs us).pt (mcF nv xs us).val (mcF nv xs us).found) :=
 rat_read (specMinCoverA nv xs us (nm_of h.2.1)) (vs:=[queryV nv a n c ua un uc]) (fun G hG=>⟨_,_,rfl,query_cvs h hh (Nat.le_refl _) G hG,rfl⟩) hlw
theorem implMC (hg:GlobW w) (h:QueryA fz lo hi w nv a n c xs ua un uc us) (hh:hi≤w.heap.size):Calls Tryd.prog 16 #[queryV nv a n c ua un uc] w (GvRatS w (mcF nv xs us).pt (mcF nv xs us).val (mcF nv xs us).found) :=
 rat_own' (afnG_out (implMinCoverG nv xs us (nm_of h.2.1)) hg (C0:=cellsC 0 w) (fun b i h=>h.2.1) (vs:=[queryV nv a n c ua un uc]) (fun G hG=>⟨_,_,rfl,query_cvs h hh (Nat.zero_le _) G hG,rfl⟩))
end
end Go.Proofs.YteiaofkgbdlpoaaDoor
namespace Go.Proofs.YteiaofkgbdlpoaaDoor
set_option linter.unusedSimpArgs false
set_option linter.unusedVariables false
open Go.RowKit
set_option maxHeartbeats 4000000 in
theorem law_FnExactMinimumCover (nv0:Int) (a0:Option Addr) (n0:Nat) (c0:Nat) (xs0:List AtomD) (ua0:Option Addr) (un0:Nat) (uc0:Nat) (us0:List Int) (w:World) (hD0:QueryA false (0) w.heap.size w nv0 a0 n0 c0 xs0 ua0 un0 uc0 us0) (hG:GlobW w) :
 Calls Tryd.prog 4 #[queryV nv0 a0 n0 c0 ua0 un0 uc0] w (Leaves w (.bool true)):=by
 have DA0:=hid hD0;clear hD0
 have hgp:=hG.pos;have DGL:=hid hG;clear hG
 go_enter Tryd.func4,Tryd.ntmps4
 go_wp2_with fail
 refine (szK_Query nv0 a0 n0 c0 xs0 ua0 un0 uc0 us0 1048576 _ (beQuery (B:=w.heap.size) DA0.out belA leA) leA (by omega) (by omega)).mono ?_
 rintro e u1 ⟨rfl,hb⟩
 have hc:Below w.heap.size w u1:=Below.trans belA (hb.mono leA)
 have z1:w.heap.size≤u1.heap.size:=hc.size
 have B0c0:u1.cell? ⟨w.heap.size,0,none⟩=some (.int .i64 nv0):=(by rw [(bcell hb).1 _ _ (by first | omega | (simp;done) | (simp;omega))];first | with_reducible assumption | (go_simp;done) | assumption | (simp [World.cell?];done))
 have B0c1:u1.cell? ⟨w.heap.size,1,none⟩=some (.slice a0 n0 c0):=(by rw [(bcell hb).1 _ _ (by first | omega | (simp;done) | (simp;omega))];first | with_reducible assumption | (go_simp;done) | assumption | (simp [World.cell?];done))
 have B0c2:u1.cell? ⟨w.heap.size,2,none⟩=some (.slice ua0 un0 uc0):=(by rw [(bcell hb).1 _ _ (by first | omega | (simp;done) | (simp;omega))];first | with_reducible assumption | (go_simp;done) | assumption | (simp [World.cell?];done))
 have B0p:w.heap.size<u1.heap.size:=World.block_lt_of_cell? _ _ B0c0
 have B0s:w.heap.size<u1.heap.size:=B0p
 replace DA0:Hid (QueryA false (0) w.heap.size u1 nv0 a0 n0 c0 xs0 ua0 un0 uc0 us0):=hid (beQuery DA0.out hc (by omega))
 replace DGL:Hid (GlobW u1):=hid (beGlob DGL.out hc (by omega))
 have HW:=hid hc
 clear hb hc
 by_cases hsz0:(szQuery xs0 us0:Int)≤1048576
 ·rw [szI_yes hsz0]
  obtain ⟨left0,hleft0⟩:∃ l,l=1048576 - (szQuery xs0 us0:Int):=⟨_,rfl⟩
  rw [← hleft0]
  have hlo0:0≤left0:=by omega
  have hhi0:left0≤1048576:=by omega
  have HS0:Hid (szQuery xs0 us0≤1048576):=hid (by omega)
  have HQ0:=hid (And.intro hsz0 hleft0);clear hsz0 hleft0
  go_wp2_with fail
  refine (toK_Query nv0 a0 n0 c0 xs0 ua0 un0 uc0 us0 _ (beQuery (B:=u1.heap.size) DA0.out belA leA) leA HS0.out).mono ?_
  rintro e u2 ⟨ap0,np0,cp0,uap0,unp0,ucp0,rfl,ho,hb⟩
  have hc:Below u1.heap.size u1 u2:=Below.trans belA (hb.mono leA)
  have z2:u1.heap.size≤u2.heap.size:=hc.size
  replace B0c0:u2.cell? ⟨w.heap.size,0,none⟩=some (.int .i64 nv0):=(by rw [(bcell hc).1 _ _ B0s];exact B0c0)
  replace B0c1:u2.cell? ⟨w.heap.size,1,none⟩=some (.slice a0 n0 c0):=(by rw [(bcell hc).1 _ _ B0s];exact B0c1)
  replace B0c2:u2.cell? ⟨w.heap.size,2,none⟩=some (.slice ua0 un0 uc0):=(by rw [(bcell hc).1 _ _ B0s];exact B0c2)
  replace B0s:w.heap.size<u2.heap.size:=(by omega)
  replace DA0:Hid (QueryA false (0) w.heap.size u2 nv0 a0 n0 c0 xs0 ua0 un0 uc0 us0):=hid (beQuery DA0.out hc (by omega))
  replace DGL:Hid (GlobW u2):=hid (beGlob DGL.out hc (by omega))
  replace HW:Hid (Below w.heap.size w u2):=hid (Below.calm HW.out hc)
  have Dp0:Hid (QueryA true (u1.heap.size) u2.heap.size u2 nv0 ap0 np0 cp0 xs0 uap0 unp0 ucp0 us0):=hid (wdQuery ho leA)
  clear ho hb hc
  obtain ⟨dxs,hdxs⟩:∃ x:List RatD,(mcF nv0 xs0 us0).pt=x:=⟨_,rfl⟩
  have HDxs:=hid hdxs;clear hdxs
  obtain ⟨rb,hrb⟩:∃ x:Bool,(mcF nv0 xs0 us0).found=x:=⟨_,rfl⟩
  have hneb:((rb:Bool) != rb)=false:=by simp
  have HRB:=hid hrb;clear hrb
  obtain ⟨rv,hrv⟩:∃ x:RatD,(mcF nv0 xs0 us0).val=x:=⟨_,rfl⟩
  have HRV:=hid hrv;clear hrv
  go_wp2_with fail
  refine (specMC (beQuery (B:=u2.heap.size) Dp0.out belA leA) leA leA).mono ?_
  rintro e u3 ⟨aW,nW,cW,rfl,ho,hb⟩
  rw [HDxs.out] at ho;rw [HRV.out,HRB.out]
  have hc:Below u2.heap.size u2 u3:=Below.trans belA (hb.mono leA)
  have z3:u2.heap.size≤u3.heap.size:=hc.size
  replace B0c0:u3.cell? ⟨w.heap.size,0,none⟩=some (.int .i64 nv0):=(by rw [(bcell hc).1 _ _ B0s];exact B0c0)
  replace B0c1:u3.cell? ⟨w.heap.size,1,none⟩=some (.slice a0 n0 c0):=(by rw [(bcell hc).1 _ _ B0s];exact B0c1)
  replace B0c2:u3.cell? ⟨w.heap.size,2,none⟩=some (.slice ua0 un0 uc0):=(by rw [(bcell hc).1 _ _ B0s];exact B0c2)
  replace B0s:w.heap.size<u3.heap.size:=(by omega)
  replace DA0:Hid (QueryA false (0) w.heap.size u3 nv0 a0 n0 c0 xs0 ua0 un0 uc0 us0):=hid (beQuery DA0.out hc (by omega))
  replace DGL:Hid (GlobW u3):=hid (beGlob DGL.out hc (by omega))
  replace Dp0:Hid (QueryA true (u1.heap.size) u2.heap.size u3 nv0 ap0 np0 cp0 xs0 uap0 unp0 ucp0 us0):=hid (beQuery Dp0.out hc (by omega))
  replace HW:Hid (Below w.heap.size w u3):=hid (Below.calm HW.out hc)
  have DW:Hid (RatsA false (u1.heap.size) u3.heap.size u3 aW nW cW dxs):=hid ho
  clear ho hb hc
  go_wp2_with fail
  refine (toK_Query nv0 a0 n0 c0 xs0 ua0 un0 uc0 us0 _ (beQuery (B:=u3.heap.size) DA0.out belA leA) leA HS0.out).mono ?_
  rintro e u4 ⟨ax0,nx0,cx0,uax0,unx0,ucx0,rfl,ho,hb⟩
  have hc:Below u3.heap.size u3 u4:=Below.trans belA (hb.mono leA)
  have z4:u3.heap.size≤u4.heap.size:=hc.size
  replace B0c0:u4.cell? ⟨w.heap.size,0,none⟩=some (.int .i64 nv0):=(by rw [(bcell hc).1 _ _ B0s];exact B0c0)
  replace B0c1:u4.cell? ⟨w.heap.size,1,none⟩=some (.slice a0 n0 c0):=(by rw [(bcell hc).1 _ _ B0s];exact B0c1)
  replace B0c2:u4.cell? ⟨w.heap.size,2,none⟩=some (.slice ua0 un0 uc0):=(by rw [(bcell hc).1 _ _ B0s];exact B0c2)
  replace B0s:w.heap.size<u4.heap.size:=(by omega)
  have B1c0:u4.cell? ⟨u3.heap.size,0,none⟩=some (.int .i64 rv.num):=(by rw [(bcell hb).1 _ _ (by first | omega | (simp;done) | (simp;omega))];first | with_reducible assumption | (go_simp;done) | assumption | (simp [World.cell?];done))
  have B1c1:u4.cell? ⟨u3.heap.size,1,none⟩=some (.int .i64 rv.den):=(by rw [(bcell hb).1 _ _ (by first | omega | (simp;done) | (simp;omega))];first | with_reducible assumption | (go_simp;done) | assumption | (simp [World.cell?];done))
  have B1p:u3.heap.size<u4.heap.size:=World.block_lt_of_cell? _ _ B1c0
  have B1s:u3.heap.size<u4.heap.size:=B1p
  replace DA0:Hid (QueryA false (0) w.heap.size u4 nv0 a0 n0 c0 xs0 ua0 un0 uc0 us0):=hid (beQuery DA0.out hc (by omega))
  replace DGL:Hid (GlobW u4):=hid (beGlob DGL.out hc (by omega))
  replace DW:Hid (RatsA false (u1.heap.size) u3.heap.size u4 aW nW cW dxs):=hid (beRats DW.out hc (by omega))
  replace HW:Hid (Below w.heap.size w u4):=hid (Below.calm HW.out hc)
  have Dx0:Hid (QueryA true (u3.heap.size+1) u4.heap.size u4 nv0 ax0 nx0 cx0 xs0 uax0 unx0 ucx0 us0):=hid (wdQuery ho leA)
  clear ho hb hc
  go_wp2_with fail
  refine (implMC (beGlob (B:=u4.heap.size) DGL.out belA leA) (beQuery (B:=u4.heap.size) Dx0.out belA leA) leA).mono ?_
  rintro e u5 ⟨aG,nG,cG,rfl,ho,hb⟩
  rw [HDxs.out] at ho;rw [HRV.out,HRB.out]
  have hc:Below u4.heap.size u4 u5:=Below.trans belA (hb.mono leA)
  have z5:u4.heap.size≤u5.heap.size:=hc.size
  replace B0c0:u5.cell? ⟨w.heap.size,0,none⟩=some (.int .i64 nv0):=(by rw [(bcell hc).1 _ _ B0s];exact B0c0)
  replace B0c1:u5.cell? ⟨w.heap.size,1,none⟩=some (.slice a0 n0 c0):=(by rw [(bcell hc).1 _ _ B0s];exact B0c1)
  replace B0c2:u5.cell? ⟨w.heap.size,2,none⟩=some (.slice ua0 un0 uc0):=(by rw [(bcell hc).1 _ _ B0s];exact B0c2)
  replace B0s:w.heap.size<u5.heap.size:=(by omega)
  replace B1c0:u5.cell? ⟨u3.heap.size,0,none⟩=some (.int .i64 rv.num):=(by rw [(bcell hc).1 _ _ B1s];exact B1c0)
  replace B1c1:u5.cell? ⟨u3.heap.size,1,none⟩=some (.int .i64 rv.den):=(by rw [(bcell hc).1 _ _ B1s];exact B1c1)
  replace B1s:u3.heap.size<u5.heap.size:=(by omega)
  have B2c0:u5.cell? ⟨u4.heap.size,0,none⟩=some (.int .i64 nv0):=(by rw [(bcell hb).1 _ _ (by first | omega | (simp;done) | (simp;omega))];first | with_reducible assumption | (go_simp;done) | assumption | (simp [World.cell?];done))
  have B2c1:u5.cell? ⟨u4.heap.size,1,none⟩=some (.slice ax0 nx0 cx0):=(by rw [(bcell hb).1 _ _ (by first | omega | (simp;done) | (simp;omega))];first | with_reducible assumption | (go_simp;done) | assumption | (simp [World.cell?];done))
  have B2c2:u5.cell? ⟨u4.heap.size,2,none⟩=some (.slice uax0 unx0 ucx0):=(by rw [(bcell hb).1 _ _ (by first | omega | (simp;done) | (simp;omega))];first | with_reducible assumption | (go_simp;done) | assumption | (simp [World.cell?];done))
  have B2p:u4.heap.size<u5.heap.size:=World.block_lt_of_cell? _ _ B2c0
  have B2s:u4.heap.size<u5.heap.size:=B2p
  replace DA0:Hid (QueryA false (0) w.heap.size u5 nv0 a0 n0 c0 xs0 ua0 un0 uc0 us0):=hid (beQuery DA0.out hc (by omega))
  replace DGL:Hid (GlobW u5):=hid (beGlob DGL.out hc (by omega))
  replace DW:Hid (RatsA false (u1.heap.size) u3.heap.size u5 aW nW cW dxs):=hid (beRats DW.out hc (by omega))
  replace Dx0:Hid (QueryA true (u3.heap.size+1) u4.heap.size u5 nv0 ax0 nx0 cx0 xs0 uax0 unx0 ucx0 us0):=hid (beQuery Dx0.out hc (by omega))
  replace HW:Hid (Below w.heap.size w u5):=hid (Below.calm HW.out hc)
  have DG:Hid (RatsA true (u4.heap.size+1) u5.heap.size u5 aG nG cG dxs):=hid (wdRats ho leA)
  clear ho hb hc
  go_wp2_with fail
  refine (eqRats aG aW nG cG nW cW dxs _ ((beRats (B:=u5.heap.size) DG.out belA leA)) leA (beRats (B:=u5.heap.size) DW.out belA leA) leA).mono ?_
  rintro e u6 ⟨rfl,hb⟩
  have hc:Below u5.heap.size u5 u6:=Below.trans belA (hb.mono leA)
  have z6:u5.heap.size≤u6.heap.size:=hc.size
  replace B0c0:u6.cell? ⟨w.heap.size,0,none⟩=some (.int .i64 nv0):=(by rw [(bcell hc).1 _ _ B0s];exact B0c0)
  replace B0c1:u6.cell? ⟨w.heap.size,1,none⟩=some (.slice a0 n0 c0):=(by rw [(bcell hc).1 _ _ B0s];exact B0c1)
  replace B0c2:u6.cell? ⟨w.heap.size,2,none⟩=some (.slice ua0 un0 uc0):=(by rw [(bcell hc).1 _ _ B0s];exact B0c2)
  replace B0s:w.heap.size<u6.heap.size:=(by omega)
  replace B1c0:u6.cell? ⟨u3.heap.size,0,none⟩=some (.int .i64 rv.num):=(by rw [(bcell hc).1 _ _ B1s];exact B1c0)
  replace B1c1:u6.cell? ⟨u3.heap.size,1,none⟩=some (.int .i64 rv.den):=(by rw [(bcell hc).1 _ _ B1s];exact B1c1)
  replace B1s:u3.heap.size<u6.heap.size:=(by omega)
  replace B2c0:u6.cell? ⟨u4.heap.size,0,none⟩=some (.int .i64 nv0):=(by rw [(bcell hc).1 _ _ B2s];exact B2c0)
  replace B2c1:u6.cell? ⟨u4.heap.size,1,none⟩=some (.slice ax0 nx0 cx0):=(by rw [(bcell hc).1 _ _ B2s];exact B2c1)
  replace B2c2:u6.cell? ⟨u4.heap.size,2,none⟩=some (.slice uax0 unx0 ucx0):=(by rw [(bcell hc).1 _ _ B2s];exact B2c2)
  replace B2s:u4.heap.size<u6.heap.size:=(by omega)
  have B3c0:u6.cell? ⟨u5.heap.size,0,none⟩=some (.int .i64 rv.num):=(by rw [(bcell hb).1 _ _ (by first | omega | (simp;done) | (simp;omega))];first | with_reducible assumption | (go_simp;done) | assumption | (simp [World.cell?];done))
  have B3c1:u6.cell? ⟨u5.heap.size,1,none⟩=some (.int .i64 rv.den):=(by rw [(bcell hb).1 _ _ (by first | omega | (simp;done) | (simp;omega))];first | with_reducible assumption | (go_simp;done) | assumption | (simp [World.cell?];done))
  have B3p:u5.heap.size<u6.heap.size:=World.block_lt_of_cell? _ _ B3c0
  have B3s:u5.heap.size<u6.heap.size:=B3p
  replace DA0:Hid (QueryA false (0) w.heap.size u6 nv0 a0 n0 c0 xs0 ua0 un0 uc0 us0):=hid (beQuery DA0.out hc (by omega))
  replace DGL:Hid (GlobW u6):=hid (beGlob DGL.out hc (by omega))
  replace DW:Hid (RatsA false (u1.heap.size) u3.heap.size u6 aW nW cW dxs):=hid (beRats DW.out hc (by omega))
  replace Dx0:Hid (QueryA true (u3.heap.size+1) u4.heap.size u6 nv0 ax0 nx0 cx0 xs0 uax0 unx0 ucx0 us0):=hid (beQuery Dx0.out hc (by omega))
  replace DG:Hid (RatsA true (u4.heap.size+1) u5.heap.size u6 aG nG cG dxs):=hid (beRats DG.out hc (by omega))
  replace HW:Hid (Below w.heap.size w u6):=hid (Below.calm HW.out hc)
  clear hb hc
  go_wp2_with fail
  refine (eqRat1 rv.num rv.den _).mono ?_
  rintro e u7 ⟨rfl,hb⟩
  have hc:Below u6.heap.size u6 u7:=Below.trans belA (hb.mono leA)
  have z7:u6.heap.size≤u7.heap.size:=hc.size
  replace B0c0:u7.cell? ⟨w.heap.size,0,none⟩=some (.int .i64 nv0):=(by rw [(bcell hc).1 _ _ B0s];exact B0c0)
  replace B0c1:u7.cell? ⟨w.heap.size,1,none⟩=some (.slice a0 n0 c0):=(by rw [(bcell hc).1 _ _ B0s];exact B0c1)
  replace B0c2:u7.cell? ⟨w.heap.size,2,none⟩=some (.slice ua0 un0 uc0):=(by rw [(bcell hc).1 _ _ B0s];exact B0c2)
  replace B0s:w.heap.size<u7.heap.size:=(by omega)
  replace B1c0:u7.cell? ⟨u3.heap.size,0,none⟩=some (.int .i64 rv.num):=(by rw [(bcell hc).1 _ _ B1s];exact B1c0)
  replace B1c1:u7.cell? ⟨u3.heap.size,1,none⟩=some (.int .i64 rv.den):=(by rw [(bcell hc).1 _ _ B1s];exact B1c1)
  replace B1s:u3.heap.size<u7.heap.size:=(by omega)
  replace B2c0:u7.cell? ⟨u4.heap.size,0,none⟩=some (.int .i64 nv0):=(by rw [(bcell hc).1 _ _ B2s];exact B2c0)
  replace B2c1:u7.cell? ⟨u4.heap.size,1,none⟩=some (.slice ax0 nx0 cx0):=(by rw [(bcell hc).1 _ _ B2s];exact B2c1)
  replace B2c2:u7.cell? ⟨u4.heap.size,2,none⟩=some (.slice uax0 unx0 ucx0):=(by rw [(bcell hc).1 _ _ B2s];exact B2c2)
  replace B2s:u4.heap.size<u7.heap.size:=(by omega)
  replace B3c0:u7.cell? ⟨u5.heap.size,0,none⟩=some (.int .i64 rv.num):=(by rw [(bcell hc).1 _ _ B3s];exact B3c0)
  replace B3c1:u7.cell? ⟨u5.heap.size,1,none⟩=some (.int .i64 rv.den):=(by rw [(bcell hc).1 _ _ B3s];exact B3c1)
  replace B3s:u5.heap.size<u7.heap.size:=(by omega)
  replace DA0:Hid (QueryA false (0) w.heap.size u7 nv0 a0 n0 c0 xs0 ua0 un0 uc0 us0):=hid (beQuery DA0.out hc (by omega))
  replace DGL:Hid (GlobW u7):=hid (beGlob DGL.out hc (by omega))
  replace DW:Hid (RatsA false (u1.heap.size) u3.heap.size u7 aW nW cW dxs):=hid (beRats DW.out hc (by omega))
  replace Dx0:Hid (QueryA true (u3.heap.size+1) u4.heap.size u7 nv0 ax0 nx0 cx0 xs0 uax0 unx0 ucx0 us0):=hid (beQuery Dx0.out hc (by omega))
  replace DG:Hid (RatsA true (u4.heap.size+1) u5.heap.size u7 aG nG cG dxs):=hid (beRats DG.out hc (by omega))
  replace HW:Hid (Below w.heap.size w u7):=hid (Below.calm HW.out hc)
  clear hb hc
  go_wp2_with fail
  go_region_held3 (fun w'=>w'.cell? ⟨w.heap.size,0,none⟩=some (.int .i64 nv0)∧w'.cell? ⟨w.heap.size,1,none⟩=some (.slice a0 n0 c0)∧w'.cell? ⟨w.heap.size,2,none⟩=some (.slice ua0 un0 uc0)∧w'.cell? ⟨u3.heap.size,0,none⟩=some (.int .i64 rv.num)∧w'.cell? ⟨u3.heap.size,1,none⟩=some (.int .i64 rv.den)∧w'.cell? ⟨u4.heap.size,0,none⟩=some (.int .i64 nv0)∧w'.cell? ⟨u4.heap.size,1,none⟩=some (.slice ax0 nx0 cx0)∧w'.cell? ⟨u4.heap.size,2,none⟩=some (.slice uax0 unx0 ucx0)∧w'.cell? ⟨u5.heap.size,0,none⟩=some (.int .i64 rv.num)∧w'.cell? ⟨u5.heap.size,1,none⟩=some (.int .i64 rv.den)) (refine ⟨?_,?_,?_,?_,?_,?_,?_,?_,?_,?_⟩ <;> assumption)
   (first | (go_at_call 8;refine (toK_Query nv0 a0 n0 c0 xs0 ua0 un0 uc0 us0 _ (beQuery (B:=u7.heap.size) DA0.out belA leA) leA HS0.out).mono ?_;rintro e u8 ⟨ay0,ny0,cy0,uay0,uny0,ucy0,rfl,ho,hb⟩;have hc:Below u7.heap.size u7 u8:=Below.trans belA (hb.mono leA);have z8:u7.heap.size≤u8.heap.size:=hc.size;replace B0c0:u8.cell? ⟨w.heap.size,0,none⟩=some (.int .i64 nv0):=(by rw [(bcell hc).1 _ _ B0s];exact B0c0);replace B0c1:u8.cell? ⟨w.heap.size,1,none⟩=some (.slice a0 n0 c0):=(by rw [(bcell hc).1 _ _ B0s];exact B0c1);replace B0c2:u8.cell? ⟨w.heap.size,2,none⟩=some (.slice ua0 un0 uc0):=(by rw [(bcell hc).1 _ _ B0s];exact B0c2);replace B0s:w.heap.size<u8.heap.size:=(by omega);replace B1c0:u8.cell? ⟨u3.heap.size,0,none⟩=some (.int .i64 rv.num):=(by rw [(bcell hc).1 _ _ B1s];exact B1c0);replace B1c1:u8.cell? ⟨u3.heap.size,1,none⟩=some (.int .i64 rv.den):=(by rw [(bcell hc).1 _ _ B1s];exact B1c1);replace B1s:u3.heap.size<u8.heap.size:=(by omega);replace B2c0:u8.cell? ⟨u4.heap.size,0,none⟩=some (.int .i64 nv0):=(by rw [(bcell hc).1 _ _ B2s];exact B2c0);replace B2c1:u8.cell? ⟨u4.heap.size,1,none⟩=some (.slice ax0 nx0 cx0):=(by rw [(bcell hc).1 _ _ B2s];exact B2c1);replace B2c2:u8.cell? ⟨u4.heap.size,2,none⟩=some (.slice uax0 unx0 ucx0):=(by rw [(bcell hc).1 _ _ B2s];exact B2c2);replace B2s:u4.heap.size<u8.heap.size:=(by omega);replace B3c0:u8.cell? ⟨u5.heap.size,0,none⟩=some (.int .i64 rv.num):=(by rw [(bcell hc).1 _ _ B3s];exact B3c0);replace B3c1:u8.cell? ⟨u5.heap.size,1,none⟩=some (.int .i64 rv.den):=(by rw [(bcell hc).1 _ _ B3s];exact B3c1);replace B3s:u5.heap.size<u8.heap.size:=(by omega);replace DA0:Hid (QueryA false (0) w.heap.size u8 nv0 a0 n0 c0 xs0 ua0 un0 uc0 us0):=hid (beQuery DA0.out hc (by omega));replace DGL:Hid (GlobW u8):=hid (beGlob DGL.out hc (by omega));replace DW:Hid (RatsA false (u1.heap.size) u3.heap.size u8 aW nW cW dxs):=hid (beRats DW.out hc (by omega));replace Dx0:Hid (QueryA true (u3.heap.size+1) u4.heap.size u8 nv0 ax0 nx0 cx0 xs0 uax0 unx0 ucx0 us0):=hid (beQuery Dx0.out hc (by omega));replace DG:Hid (RatsA true (u4.heap.size+1) u5.heap.size u8 aG nG cG dxs):=hid (beRats DG.out hc (by omega));replace HW:Hid (Below w.heap.size w u8):=hid (Below.calm HW.out hc);have Dy0:Hid (QueryA true (u7.heap.size) u8.heap.size u8 nv0 ay0 ny0 cy0 xs0 uay0 uny0 ucy0 us0):=hid (wdQuery ho leA);clear ho hb hc) | (go_at_call 11;refine (eqK_Query nv0 ax0 nx0 cx0 xs0 uax0 unx0 ucx0 us0 ay0 ny0 cy0 uay0 uny0 ucy0 _ (beQuery (B:=u8.heap.size) Dx0.out belA leA) leA (beQuery (B:=u8.heap.size) Dy0.out belA leA) leA).mono ?_;rintro e u9 ⟨rfl,hb⟩;have hc:Below u8.heap.size u8 u9:=Below.trans belA (hb.mono leA);have z9:u8.heap.size≤u9.heap.size:=hc.size;replace B0c0:u9.cell? ⟨w.heap.size,0,none⟩=some (.int .i64 nv0):=(by rw [(bcell hc).1 _ _ B0s];exact B0c0);replace B0c1:u9.cell? ⟨w.heap.size,1,none⟩=some (.slice a0 n0 c0):=(by rw [(bcell hc).1 _ _ B0s];exact B0c1);replace B0c2:u9.cell? ⟨w.heap.size,2,none⟩=some (.slice ua0 un0 uc0):=(by rw [(bcell hc).1 _ _ B0s];exact B0c2);replace B0s:w.heap.size<u9.heap.size:=(by omega);replace B1c0:u9.cell? ⟨u3.heap.size,0,none⟩=some (.int .i64 rv.num):=(by rw [(bcell hc).1 _ _ B1s];exact B1c0);replace B1c1:u9.cell? ⟨u3.heap.size,1,none⟩=some (.int .i64 rv.den):=(by rw [(bcell hc).1 _ _ B1s];exact B1c1);replace B1s:u3.heap.size<u9.heap.size:=(by omega);replace B2c0:u9.cell? ⟨u4.heap.size,0,none⟩=some (.int .i64 nv0):=(by rw [(bcell hc).1 _ _ B2s];exact B2c0);replace B2c1:u9.cell? ⟨u4.heap.size,1,none⟩=some (.slice ax0 nx0 cx0):=(by rw [(bcell hc).1 _ _ B2s];exact B2c1);replace B2c2:u9.cell? ⟨u4.heap.size,2,none⟩=some (.slice uax0 unx0 ucx0):=(by rw [(bcell hc).1 _ _ B2s];exact B2c2);replace B2s:u4.heap.size<u9.heap.size:=(by omega);replace B3c0:u9.cell? ⟨u5.heap.size,0,none⟩=some (.int .i64 rv.num):=(by rw [(bcell hc).1 _ _ B3s];exact B3c0);replace B3c1:u9.cell? ⟨u5.heap.size,1,none⟩=some (.int .i64 rv.den):=(by rw [(bcell hc).1 _ _ B3s];exact B3c1);replace B3s:u5.heap.size<u9.heap.size:=(by omega);replace DA0:Hid (QueryA false (0) w.heap.size u9 nv0 a0 n0 c0 xs0 ua0 un0 uc0 us0):=hid (beQuery DA0.out hc (by omega));replace DGL:Hid (GlobW u9):=hid (beGlob DGL.out hc (by omega));replace DW:Hid (RatsA false (u1.heap.size) u3.heap.size u9 aW nW cW dxs):=hid (beRats DW.out hc (by omega));replace Dx0:Hid (QueryA true (u3.heap.size+1) u4.heap.size u9 nv0 ax0 nx0 cx0 xs0 uax0 unx0 ucx0 us0):=hid (beQuery Dx0.out hc (by omega));replace DG:Hid (RatsA true (u4.heap.size+1) u5.heap.size u9 aG nG cG dxs):=hid (beRats DG.out hc (by omega));replace HW:Hid (Below w.heap.size w u9):=hid (Below.calm HW.out hc);clear hb hc))
  have hkb:(0:Int)≤1∧(1:Int)≤1:=by omega
  have hcl0:cntQuery xs0 us0≤1048576:=by have h1:=HS0.out;have h2:cntQuery xs0 us0≤szQuery xs0 us0:=(cntQuery_le _ _);omega
  obtain ⟨k1,hk1⟩:∃ k:Int,k=1+(cntQuery xs0 us0:Nat):=⟨_,rfl⟩
  have hkb1:0≤k1∧k1≤1048577:=by omega
  have HK1:=hid hk1;clear hk1 hcl0
  go_wp2_with fail
  refine (markK_Query nv0 ax0 nx0 cx0 xs0 uax0 unx0 ucx0 us0 1 _ (beQuery (B:=u9.heap.size) Dx0.out belA leA) leA (by omega) (by omega) HS0.out).mono ?_
  rintro e u10 ⟨rfl,hm⟩
  rw [← HK1.out]
  have z10:u9.heap.size≤u10.heap.size:=hm.size
  replace B0c0:u10.cell? ⟨w.heap.size,0,none⟩=some (.int .i64 nv0):=(by rw [boxQ hm _ B0s (by omega)];exact B0c0)
  replace B0c1:u10.cell? ⟨w.heap.size,1,none⟩=some (.slice a0 n0 c0):=(by rw [boxQ hm _ B0s (by omega)];exact B0c1)
  replace B0c2:u10.cell? ⟨w.heap.size,2,none⟩=some (.slice ua0 un0 uc0):=(by rw [boxQ hm _ B0s (by omega)];exact B0c2)
  replace B0s:w.heap.size<u10.heap.size:=(by omega)
  replace B1c0:u10.cell? ⟨u3.heap.size,0,none⟩=some (.int .i64 rv.num):=(by rw [boxQ hm _ B1s (by omega)];exact B1c0)
  replace B1c1:u10.cell? ⟨u3.heap.size,1,none⟩=some (.int .i64 rv.den):=(by rw [boxQ hm _ B1s (by omega)];exact B1c1)
  replace B1s:u3.heap.size<u10.heap.size:=(by omega)
  replace B2c0:u10.cell? ⟨u4.heap.size,0,none⟩=some (.int .i64 nv0):=(by rw [boxQ hm _ B2s (by omega)];exact B2c0)
  replace B2c1:u10.cell? ⟨u4.heap.size,1,none⟩=some (.slice ax0 nx0 cx0):=(by rw [boxQ hm _ B2s (by omega)];exact B2c1)
  replace B2c2:u10.cell? ⟨u4.heap.size,2,none⟩=some (.slice uax0 unx0 ucx0):=(by rw [boxQ hm _ B2s (by omega)];exact B2c2)
  replace B2s:u4.heap.size<u10.heap.size:=(by omega)
  replace B3c0:u10.cell? ⟨u5.heap.size,0,none⟩=some (.int .i64 rv.num):=(by rw [boxQ hm _ B3s (by omega)];exact B3c0)
  replace B3c1:u10.cell? ⟨u5.heap.size,1,none⟩=some (.int .i64 rv.den):=(by rw [boxQ hm _ B3s (by omega)];exact B3c1)
  replace B3s:u5.heap.size<u10.heap.size:=(by omega)
  replace DA0:Hid (QueryA false (0) w.heap.size u10 nv0 a0 n0 c0 xs0 ua0 un0 uc0 us0):=hid (kpQuery DA0.out (hm.keeps (by omega) (by omega)))
  replace DGL:Hid (GlobW u10):=hid (kpGlob DGL.out (hm.keeps (by omega) (by omega)))
  replace DW:Hid (RatsA false (u1.heap.size) u3.heap.size u10 aW nW cW dxs):=hid (kpRats DW.out (hm.keeps (by omega) (by omega)))
  replace DG:Hid (RatsA true (u4.heap.size+1) u5.heap.size u10 aG nG cG dxs):=hid (kpRats DG.out (hm.keeps (by omega) (by omega)))
  replace HW:Hid (Below w.heap.size w u10):=hid (HW.out.trans (hm.below (by omega) (by omega)))
  clear hm
  go_wp2_with fail
  refine (eqRats aG aW nG cG nW cW dxs _ ((beRats (B:=u10.heap.size) DG.out belA leA)) leA (beRats (B:=u10.heap.size) DW.out belA leA) leA).mono ?_
  rintro e u11 ⟨rfl,hb⟩
  have hc:Below u10.heap.size u10 u11:=Below.trans belA (hb.mono leA)
  have z11:u10.heap.size≤u11.heap.size:=hc.size
  replace B0c0:u11.cell? ⟨w.heap.size,0,none⟩=some (.int .i64 nv0):=(by rw [(bcell hc).1 _ _ B0s];exact B0c0)
  replace B0c1:u11.cell? ⟨w.heap.size,1,none⟩=some (.slice a0 n0 c0):=(by rw [(bcell hc).1 _ _ B0s];exact B0c1)
  replace B0c2:u11.cell? ⟨w.heap.size,2,none⟩=some (.slice ua0 un0 uc0):=(by rw [(bcell hc).1 _ _ B0s];exact B0c2)
  replace B0s:w.heap.size<u11.heap.size:=(by omega)
  replace B1c0:u11.cell? ⟨u3.heap.size,0,none⟩=some (.int .i64 rv.num):=(by rw [(bcell hc).1 _ _ B1s];exact B1c0)
  replace B1c1:u11.cell? ⟨u3.heap.size,1,none⟩=some (.int .i64 rv.den):=(by rw [(bcell hc).1 _ _ B1s];exact B1c1)
  replace B1s:u3.heap.size<u11.heap.size:=(by omega)
  replace B2c0:u11.cell? ⟨u4.heap.size,0,none⟩=some (.int .i64 nv0):=(by rw [(bcell hc).1 _ _ B2s];exact B2c0)
  replace B2c1:u11.cell? ⟨u4.heap.size,1,none⟩=some (.slice ax0 nx0 cx0):=(by rw [(bcell hc).1 _ _ B2s];exact B2c1)
  replace B2c2:u11.cell? ⟨u4.heap.size,2,none⟩=some (.slice uax0 unx0 ucx0):=(by rw [(bcell hc).1 _ _ B2s];exact B2c2)
  replace B2s:u4.heap.size<u11.heap.size:=(by omega)
  replace B3c0:u11.cell? ⟨u5.heap.size,0,none⟩=some (.int .i64 rv.num):=(by rw [(bcell hc).1 _ _ B3s];exact B3c0)
  replace B3c1:u11.cell? ⟨u5.heap.size,1,none⟩=some (.int .i64 rv.den):=(by rw [(bcell hc).1 _ _ B3s];exact B3c1)
  replace B3s:u5.heap.size<u11.heap.size:=(by omega)
  replace DA0:Hid (QueryA false (0) w.heap.size u11 nv0 a0 n0 c0 xs0 ua0 un0 uc0 us0):=hid (beQuery DA0.out hc (by omega))
  replace DGL:Hid (GlobW u11):=hid (beGlob DGL.out hc (by omega))
  replace DW:Hid (RatsA false (u1.heap.size) u3.heap.size u11 aW nW cW dxs):=hid (beRats DW.out hc (by omega))
  replace DG:Hid (RatsA true (u4.heap.size+1) u5.heap.size u11 aG nG cG dxs):=hid (beRats DG.out hc (by omega))
  replace HW:Hid (Below w.heap.size w u11):=hid (Below.calm HW.out hc)
  clear hb hc
  go_wp2_with fail
  refine (eqRat1 rv.num rv.den _).mono ?_
  rintro e u12 ⟨rfl,hb⟩
  have hc:Below u11.heap.size u11 u12:=Below.trans belA (hb.mono leA)
  have z12:u11.heap.size≤u12.heap.size:=hc.size
  replace B0c0:u12.cell? ⟨w.heap.size,0,none⟩=some (.int .i64 nv0):=(by rw [(bcell hc).1 _ _ B0s];exact B0c0)
  replace B0c1:u12.cell? ⟨w.heap.size,1,none⟩=some (.slice a0 n0 c0):=(by rw [(bcell hc).1 _ _ B0s];exact B0c1)
  replace B0c2:u12.cell? ⟨w.heap.size,2,none⟩=some (.slice ua0 un0 uc0):=(by rw [(bcell hc).1 _ _ B0s];exact B0c2)
  replace B0s:w.heap.size<u12.heap.size:=(by omega)
  replace B1c0:u12.cell? ⟨u3.heap.size,0,none⟩=some (.int .i64 rv.num):=(by rw [(bcell hc).1 _ _ B1s];exact B1c0)
  replace B1c1:u12.cell? ⟨u3.heap.size,1,none⟩=some (.int .i64 rv.den):=(by rw [(bcell hc).1 _ _ B1s];exact B1c1)
  replace B1s:u3.heap.size<u12.heap.size:=(by omega)
  replace B2c0:u12.cell? ⟨u4.heap.size,0,none⟩=some (.int .i64 nv0):=(by rw [(bcell hc).1 _ _ B2s];exact B2c0)
  replace B2c1:u12.cell? ⟨u4.heap.size,1,none⟩=some (.slice ax0 nx0 cx0):=(by rw [(bcell hc).1 _ _ B2s];exact B2c1)
  replace B2c2:u12.cell? ⟨u4.heap.size,2,none⟩=some (.slice uax0 unx0 ucx0):=(by rw [(bcell hc).1 _ _ B2s];exact B2c2)
  replace B2s:u4.heap.size<u12.heap.size:=(by omega)
  replace B3c0:u12.cell? ⟨u5.heap.size,0,none⟩=some (.int .i64 rv.num):=(by rw [(bcell hc).1 _ _ B3s];exact B3c0)
  replace B3c1:u12.cell? ⟨u5.heap.size,1,none⟩=some (.int .i64 rv.den):=(by rw [(bcell hc).1 _ _ B3s];exact B3c1)
  replace B3s:u5.heap.size<u12.heap.size:=(by omega)
  replace DA0:Hid (QueryA false (0) w.heap.size u12 nv0 a0 n0 c0 xs0 ua0 un0 uc0 us0):=hid (beQuery DA0.out hc (by omega))
  replace DGL:Hid (GlobW u12):=hid (beGlob DGL.out hc (by omega))
  replace DW:Hid (RatsA false (u1.heap.size) u3.heap.size u12 aW nW cW dxs):=hid (beRats DW.out hc (by omega))
  replace DG:Hid (RatsA true (u4.heap.size+1) u5.heap.size u12 aG nG cG dxs):=hid (beRats DG.out hc (by omega))
  replace HW:Hid (Below w.heap.size w u12):=hid (Below.calm HW.out hc)
  clear hb hc
  have HSG:Hid (dxs.length≤1048576):=hid (by rw [← HDxs.out];exact mc_sz nv0 xs0 us0)
  obtain ⟨lenG,hlenG⟩:∃ l,l=(dxs.length*2):=⟨_,rfl⟩
  have HLG:=hid hlenG;clear hlenG
  obtain ⟨km,hkm⟩:∃ k:Int,k=1+(lenG:Nat):=⟨_,rfl⟩
  have hkmb:0≤km:=by omega
  have hkne:(km != km)=false:=by simp
  have HKM:=hid hkm;clear hkm
  go_wp2_with fail
  refine (resK_Rats aG nG cG dxs 1 _ (beRats (B:=u12.heap.size) DG.out belA leA) leA (by omega) (by omega) HSG.out).mono ?_
  rintro e u13 ⟨rfl,hm,ho⟩
  rw [← HLG.out];rw [← HKM.out]
  have z13:u12.heap.size≤u13.heap.size:=hm.size
  replace B0c0:u13.cell? ⟨w.heap.size,0,none⟩=some (.int .i64 nv0):=(by rw [boxG hm _ B0s (by omega)];exact B0c0)
  replace B0c1:u13.cell? ⟨w.heap.size,1,none⟩=some (.slice a0 n0 c0):=(by rw [boxG hm _ B0s (by omega)];exact B0c1)
  replace B0c2:u13.cell? ⟨w.heap.size,2,none⟩=some (.slice ua0 un0 uc0):=(by rw [boxG hm _ B0s (by omega)];exact B0c2)
  replace B0s:w.heap.size<u13.heap.size:=(by omega)
  replace B1c0:u13.cell? ⟨u3.heap.size,0,none⟩=some (.int .i64 rv.num):=(by rw [boxG hm _ B1s (by omega)];exact B1c0)
  replace B1c1:u13.cell? ⟨u3.heap.size,1,none⟩=some (.int .i64 rv.den):=(by rw [boxG hm _ B1s (by omega)];exact B1c1)
  replace B1s:u3.heap.size<u13.heap.size:=(by omega)
  replace B2c0:u13.cell? ⟨u4.heap.size,0,none⟩=some (.int .i64 nv0):=(by rw [boxG hm _ B2s (by omega)];exact B2c0)
  replace B2c1:u13.cell? ⟨u4.heap.size,1,none⟩=some (.slice ax0 nx0 cx0):=(by rw [boxG hm _ B2s (by omega)];exact B2c1)
  replace B2c2:u13.cell? ⟨u4.heap.size,2,none⟩=some (.slice uax0 unx0 ucx0):=(by rw [boxG hm _ B2s (by omega)];exact B2c2)
  replace B2s:u4.heap.size<u13.heap.size:=(by omega)
  replace B3c0:u13.cell? ⟨u5.heap.size,0,none⟩=some (.int .i64 rv.num):=(by rw [boxG hm _ B3s (by omega)];exact B3c0)
  replace B3c1:u13.cell? ⟨u5.heap.size,1,none⟩=some (.int .i64 rv.den):=(by rw [boxG hm _ B3s (by omega)];exact B3c1)
  replace B3s:u5.heap.size<u13.heap.size:=(by omega)
  replace DA0:Hid (QueryA false (0) w.heap.size u13 nv0 a0 n0 c0 xs0 ua0 un0 uc0 us0):=hid (kpQuery DA0.out (hm.keeps (by omega) (by omega)))
  replace DGL:Hid (GlobW u13):=hid (kpGlob DGL.out (hm.keeps (by omega) (by omega)))
  replace DW:Hid (RatsA false (u1.heap.size) u3.heap.size u13 aW nW cW dxs):=hid (kpRats DW.out (hm.keeps (by omega) (by omega)))
  replace HW:Hid (Below w.heap.size w u13):=hid (HW.out.trans (hm.below (by omega) (by omega)))
  have DM:Hid (RatsA true (u4.heap.size+1) u5.heap.size u13 aG nG cG (mkRats 1 (dxs).length)):=hid ho
  clear ho hm
  go_wp2_with fail
  refine (heldK_Rats aG nG cG dxs 1 _ (beRats (B:=u13.heap.size) DM.out belA leA) leA (by omega) (by omega) HSG.out).mono ?_
  rintro e u14 ⟨rfl,hb⟩
  rw [← HLG.out,← HKM.out]
  have hc:Below u13.heap.size u13 u14:=Below.trans belA (hb.mono leA)
  have z14:u13.heap.size≤u14.heap.size:=hc.size
  replace B0c0:u14.cell? ⟨w.heap.size,0,none⟩=some (.int .i64 nv0):=(by rw [(bcell hc).1 _ _ B0s];exact B0c0)
  replace B0c1:u14.cell? ⟨w.heap.size,1,none⟩=some (.slice a0 n0 c0):=(by rw [(bcell hc).1 _ _ B0s];exact B0c1)
  replace B0c2:u14.cell? ⟨w.heap.size,2,none⟩=some (.slice ua0 un0 uc0):=(by rw [(bcell hc).1 _ _ B0s];exact B0c2)
  replace B0s:w.heap.size<u14.heap.size:=(by omega)
  replace B1c0:u14.cell? ⟨u3.heap.size,0,none⟩=some (.int .i64 rv.num):=(by rw [(bcell hc).1 _ _ B1s];exact B1c0)
  replace B1c1:u14.cell? ⟨u3.heap.size,1,none⟩=some (.int .i64 rv.den):=(by rw [(bcell hc).1 _ _ B1s];exact B1c1)
  replace B1s:u3.heap.size<u14.heap.size:=(by omega)
  replace B2c0:u14.cell? ⟨u4.heap.size,0,none⟩=some (.int .i64 nv0):=(by rw [(bcell hc).1 _ _ B2s];exact B2c0)
  replace B2c1:u14.cell? ⟨u4.heap.size,1,none⟩=some (.slice ax0 nx0 cx0):=(by rw [(bcell hc).1 _ _ B2s];exact B2c1)
  replace B2c2:u14.cell? ⟨u4.heap.size,2,none⟩=some (.slice uax0 unx0 ucx0):=(by rw [(bcell hc).1 _ _ B2s];exact B2c2)
  replace B2s:u4.heap.size<u14.heap.size:=(by omega)
  replace B3c0:u14.cell? ⟨u5.heap.size,0,none⟩=some (.int .i64 rv.num):=(by rw [(bcell hc).1 _ _ B3s];exact B3c0)
  replace B3c1:u14.cell? ⟨u5.heap.size,1,none⟩=some (.int .i64 rv.den):=(by rw [(bcell hc).1 _ _ B3s];exact B3c1)
  replace B3s:u5.heap.size<u14.heap.size:=(by omega)
  replace DA0:Hid (QueryA false (0) w.heap.size u14 nv0 a0 n0 c0 xs0 ua0 un0 uc0 us0):=hid (beQuery DA0.out hc (by omega))
  replace DGL:Hid (GlobW u14):=hid (beGlob DGL.out hc (by omega))
  replace DW:Hid (RatsA false (u1.heap.size) u3.heap.size u14 aW nW cW dxs):=hid (beRats DW.out hc (by omega))
  replace DM:Hid (RatsA true (u4.heap.size+1) u5.heap.size u14 aG nG cG (mkRats 1 (dxs).length)):=hid (beRats DM.out hc (by omega))
  replace HW:Hid (Below w.heap.size w u14):=hid (Below.calm HW.out hc)
  clear hb hc
  go_wp2_with fail
  refine (toK_Query nv0 a0 n0 c0 xs0 ua0 un0 uc0 us0 _ (beQuery (B:=u14.heap.size) DA0.out belA leA) leA HS0.out).mono ?_
  rintro e u15 ⟨ah0,nh0,ch0,uah0,unh0,uch0,rfl,ho,hb⟩
  have hc:Below u14.heap.size u14 u15:=Below.trans belA (hb.mono leA)
  have z15:u14.heap.size≤u15.heap.size:=hc.size
  replace B0c0:u15.cell? ⟨w.heap.size,0,none⟩=some (.int .i64 nv0):=(by rw [(bcell hc).1 _ _ B0s];exact B0c0)
  replace B0c1:u15.cell? ⟨w.heap.size,1,none⟩=some (.slice a0 n0 c0):=(by rw [(bcell hc).1 _ _ B0s];exact B0c1)
  replace B0c2:u15.cell? ⟨w.heap.size,2,none⟩=some (.slice ua0 un0 uc0):=(by rw [(bcell hc).1 _ _ B0s];exact B0c2)
  replace B0s:w.heap.size<u15.heap.size:=(by omega)
  replace B1c0:u15.cell? ⟨u3.heap.size,0,none⟩=some (.int .i64 rv.num):=(by rw [(bcell hc).1 _ _ B1s];exact B1c0)
  replace B1c1:u15.cell? ⟨u3.heap.size,1,none⟩=some (.int .i64 rv.den):=(by rw [(bcell hc).1 _ _ B1s];exact B1c1)
  replace B1s:u3.heap.size<u15.heap.size:=(by omega)
  replace B2c0:u15.cell? ⟨u4.heap.size,0,none⟩=some (.int .i64 nv0):=(by rw [(bcell hc).1 _ _ B2s];exact B2c0)
  replace B2c1:u15.cell? ⟨u4.heap.size,1,none⟩=some (.slice ax0 nx0 cx0):=(by rw [(bcell hc).1 _ _ B2s];exact B2c1)
  replace B2c2:u15.cell? ⟨u4.heap.size,2,none⟩=some (.slice uax0 unx0 ucx0):=(by rw [(bcell hc).1 _ _ B2s];exact B2c2)
  replace B2s:u4.heap.size<u15.heap.size:=(by omega)
  replace B3c0:u15.cell? ⟨u5.heap.size,0,none⟩=some (.int .i64 rv.num):=(by rw [(bcell hc).1 _ _ B3s];exact B3c0)
  replace B3c1:u15.cell? ⟨u5.heap.size,1,none⟩=some (.int .i64 rv.den):=(by rw [(bcell hc).1 _ _ B3s];exact B3c1)
  replace B3s:u5.heap.size<u15.heap.size:=(by omega)
  replace DA0:Hid (QueryA false (0) w.heap.size u15 nv0 a0 n0 c0 xs0 ua0 un0 uc0 us0):=hid (beQuery DA0.out hc (by omega))
  replace DGL:Hid (GlobW u15):=hid (beGlob DGL.out hc (by omega))
  replace DW:Hid (RatsA false (u1.heap.size) u3.heap.size u15 aW nW cW dxs):=hid (beRats DW.out hc (by omega))
  replace DM:Hid (RatsA true (u4.heap.size+1) u5.heap.size u15 aG nG cG (mkRats 1 (dxs).length)):=hid (beRats DM.out hc (by omega))
  replace HW:Hid (Below w.heap.size w u15):=hid (Below.calm HW.out hc)
  have Dh0:Hid (QueryA true (u14.heap.size) u15.heap.size u15 nv0 ah0 nh0 ch0 xs0 uah0 unh0 uch0 us0):=hid (wdQuery ho leA)
  clear ho hb hc
  go_wp2_with fail
  refine (implMC (beGlob (B:=u15.heap.size) DGL.out belA leA) (beQuery (B:=u15.heap.size) Dh0.out belA leA) leA).mono ?_
  rintro e u16 ⟨aE,nE,cE,rfl,ho,hb⟩
  rw [HDxs.out] at ho;rw [HRV.out,HRB.out]
  have hc:Below u15.heap.size u15 u16:=Below.trans belA (hb.mono leA)
  have z16:u15.heap.size≤u16.heap.size:=hc.size
  replace B0c0:u16.cell? ⟨w.heap.size,0,none⟩=some (.int .i64 nv0):=(by rw [(bcell hc).1 _ _ B0s];exact B0c0)
  replace B0c1:u16.cell? ⟨w.heap.size,1,none⟩=some (.slice a0 n0 c0):=(by rw [(bcell hc).1 _ _ B0s];exact B0c1)
  replace B0c2:u16.cell? ⟨w.heap.size,2,none⟩=some (.slice ua0 un0 uc0):=(by rw [(bcell hc).1 _ _ B0s];exact B0c2)
  replace B0s:w.heap.size<u16.heap.size:=(by omega)
  replace B1c0:u16.cell? ⟨u3.heap.size,0,none⟩=some (.int .i64 rv.num):=(by rw [(bcell hc).1 _ _ B1s];exact B1c0)
  replace B1c1:u16.cell? ⟨u3.heap.size,1,none⟩=some (.int .i64 rv.den):=(by rw [(bcell hc).1 _ _ B1s];exact B1c1)
  replace B1s:u3.heap.size<u16.heap.size:=(by omega)
  replace B2c0:u16.cell? ⟨u4.heap.size,0,none⟩=some (.int .i64 nv0):=(by rw [(bcell hc).1 _ _ B2s];exact B2c0)
  replace B2c1:u16.cell? ⟨u4.heap.size,1,none⟩=some (.slice ax0 nx0 cx0):=(by rw [(bcell hc).1 _ _ B2s];exact B2c1)
  replace B2c2:u16.cell? ⟨u4.heap.size,2,none⟩=some (.slice uax0 unx0 ucx0):=(by rw [(bcell hc).1 _ _ B2s];exact B2c2)
  replace B2s:u4.heap.size<u16.heap.size:=(by omega)
  replace B3c0:u16.cell? ⟨u5.heap.size,0,none⟩=some (.int .i64 rv.num):=(by rw [(bcell hc).1 _ _ B3s];exact B3c0)
  replace B3c1:u16.cell? ⟨u5.heap.size,1,none⟩=some (.int .i64 rv.den):=(by rw [(bcell hc).1 _ _ B3s];exact B3c1)
  replace B3s:u5.heap.size<u16.heap.size:=(by omega)
  replace DA0:Hid (QueryA false (0) w.heap.size u16 nv0 a0 n0 c0 xs0 ua0 un0 uc0 us0):=hid (beQuery DA0.out hc (by omega))
  replace DGL:Hid (GlobW u16):=hid (beGlob DGL.out hc (by omega))
  replace DW:Hid (RatsA false (u1.heap.size) u3.heap.size u16 aW nW cW dxs):=hid (beRats DW.out hc (by omega))
  replace DM:Hid (RatsA true (u4.heap.size+1) u5.heap.size u16 aG nG cG (mkRats 1 (dxs).length)):=hid (beRats DM.out hc (by omega))
  replace Dh0:Hid (QueryA true (u14.heap.size) u15.heap.size u16 nv0 ah0 nh0 ch0 xs0 uah0 unh0 uch0 us0):=hid (beQuery Dh0.out hc (by omega))
  replace HW:Hid (Below w.heap.size w u16):=hid (Below.calm HW.out hc)
  have DE:Hid (RatsA true (u15.heap.size) u16.heap.size u16 aE nE cE dxs):=hid (wdRats ho leA)
  clear ho hb hc
  go_wp2_with fail
  refine (eqRats aE aW nE cE nW cW dxs _ ((beRats (B:=u16.heap.size) DE.out belA leA)) leA (beRats (B:=u16.heap.size) DW.out belA leA) leA).mono ?_
  rintro e u17 ⟨rfl,hb⟩
  have hc:Below u16.heap.size u16 u17:=Below.trans belA (hb.mono leA)
  have z17:u16.heap.size≤u17.heap.size:=hc.size
  replace B0c0:u17.cell? ⟨w.heap.size,0,none⟩=some (.int .i64 nv0):=(by rw [(bcell hc).1 _ _ B0s];exact B0c0)
  replace B0c1:u17.cell? ⟨w.heap.size,1,none⟩=some (.slice a0 n0 c0):=(by rw [(bcell hc).1 _ _ B0s];exact B0c1)
  replace B0c2:u17.cell? ⟨w.heap.size,2,none⟩=some (.slice ua0 un0 uc0):=(by rw [(bcell hc).1 _ _ B0s];exact B0c2)
  replace B0s:w.heap.size<u17.heap.size:=(by omega)
  replace B1c0:u17.cell? ⟨u3.heap.size,0,none⟩=some (.int .i64 rv.num):=(by rw [(bcell hc).1 _ _ B1s];exact B1c0)
  replace B1c1:u17.cell? ⟨u3.heap.size,1,none⟩=some (.int .i64 rv.den):=(by rw [(bcell hc).1 _ _ B1s];exact B1c1)
  replace B1s:u3.heap.size<u17.heap.size:=(by omega)
  replace B2c0:u17.cell? ⟨u4.heap.size,0,none⟩=some (.int .i64 nv0):=(by rw [(bcell hc).1 _ _ B2s];exact B2c0)
  replace B2c1:u17.cell? ⟨u4.heap.size,1,none⟩=some (.slice ax0 nx0 cx0):=(by rw [(bcell hc).1 _ _ B2s];exact B2c1)
  replace B2c2:u17.cell? ⟨u4.heap.size,2,none⟩=some (.slice uax0 unx0 ucx0):=(by rw [(bcell hc).1 _ _ B2s];exact B2c2)
  replace B2s:u4.heap.size<u17.heap.size:=(by omega)
  replace B3c0:u17.cell? ⟨u5.heap.size,0,none⟩=some (.int .i64 rv.num):=(by rw [(bcell hc).1 _ _ B3s];exact B3c0)
  replace B3c1:u17.cell? ⟨u5.heap.size,1,none⟩=some (.int .i64 rv.den):=(by rw [(bcell hc).1 _ _ B3s];exact B3c1)
  replace B3s:u5.heap.size<u17.heap.size:=(by omega)
  have B4c0:u17.cell? ⟨u16.heap.size,0,none⟩=some (.int .i64 rv.num):=(by rw [(bcell hb).1 _ _ (by first | omega | (simp;done) | (simp;omega))];first | with_reducible assumption | (go_simp;done) | assumption | (simp [World.cell?];done))
  have B4c1:u17.cell? ⟨u16.heap.size,1,none⟩=some (.int .i64 rv.den):=(by rw [(bcell hb).1 _ _ (by first | omega | (simp;done) | (simp;omega))];first | with_reducible assumption | (go_simp;done) | assumption | (simp [World.cell?];done))
  have B4p:u16.heap.size<u17.heap.size:=World.block_lt_of_cell? _ _ B4c0
  have B4s:u16.heap.size<u17.heap.size:=B4p
  replace DA0:Hid (QueryA false (0) w.heap.size u17 nv0 a0 n0 c0 xs0 ua0 un0 uc0 us0):=hid (beQuery DA0.out hc (by omega))
  replace DGL:Hid (GlobW u17):=hid (beGlob DGL.out hc (by omega))
  replace DW:Hid (RatsA false (u1.heap.size) u3.heap.size u17 aW nW cW dxs):=hid (beRats DW.out hc (by omega))
  replace DM:Hid (RatsA true (u4.heap.size+1) u5.heap.size u17 aG nG cG (mkRats 1 (dxs).length)):=hid (beRats DM.out hc (by omega))
  replace Dh0:Hid (QueryA true (u14.heap.size) u15.heap.size u17 nv0 ah0 nh0 ch0 xs0 uah0 unh0 uch0 us0):=hid (beQuery Dh0.out hc (by omega))
  replace DE:Hid (RatsA true (u15.heap.size) u16.heap.size u17 aE nE cE dxs):=hid (beRats DE.out hc (by omega))
  replace HW:Hid (Below w.heap.size w u17):=hid (Below.calm HW.out hc)
  clear hb hc
  go_wp2_with fail
  refine (eqRat1 rv.num rv.den _).mono ?_
  rintro e u18 ⟨rfl,hb⟩
  have hc:Below u17.heap.size u17 u18:=Below.trans belA (hb.mono leA)
  have z18:u17.heap.size≤u18.heap.size:=hc.size
  replace B0c0:u18.cell? ⟨w.heap.size,0,none⟩=some (.int .i64 nv0):=(by rw [(bcell hc).1 _ _ B0s];exact B0c0)
  replace B0c1:u18.cell? ⟨w.heap.size,1,none⟩=some (.slice a0 n0 c0):=(by rw [(bcell hc).1 _ _ B0s];exact B0c1)
  replace B0c2:u18.cell? ⟨w.heap.size,2,none⟩=some (.slice ua0 un0 uc0):=(by rw [(bcell hc).1 _ _ B0s];exact B0c2)
  replace B0s:w.heap.size<u18.heap.size:=(by omega)
  replace B1c0:u18.cell? ⟨u3.heap.size,0,none⟩=some (.int .i64 rv.num):=(by rw [(bcell hc).1 _ _ B1s];exact B1c0)
  replace B1c1:u18.cell? ⟨u3.heap.size,1,none⟩=some (.int .i64 rv.den):=(by rw [(bcell hc).1 _ _ B1s];exact B1c1)
  replace B1s:u3.heap.size<u18.heap.size:=(by omega)
  replace B2c0:u18.cell? ⟨u4.heap.size,0,none⟩=some (.int .i64 nv0):=(by rw [(bcell hc).1 _ _ B2s];exact B2c0)
  replace B2c1:u18.cell? ⟨u4.heap.size,1,none⟩=some (.slice ax0 nx0 cx0):=(by rw [(bcell hc).1 _ _ B2s];exact B2c1)
  replace B2c2:u18.cell? ⟨u4.heap.size,2,none⟩=some (.slice uax0 unx0 ucx0):=(by rw [(bcell hc).1 _ _ B2s];exact B2c2)
  replace B2s:u4.heap.size<u18.heap.size:=(by omega)
  replace B3c0:u18.cell? ⟨u5.heap.size,0,none⟩=some (.int .i64 rv.num):=(by rw [(bcell hc).1 _ _ B3s];exact B3c0)
  replace B3c1:u18.cell? ⟨u5.heap.size,1,none⟩=some (.int .i64 rv.den):=(by rw [(bcell hc).1 _ _ B3s];exact B3c1)
  replace B3s:u5.heap.size<u18.heap.size:=(by omega)
  replace B4c0:u18.cell? ⟨u16.heap.size,0,none⟩=some (.int .i64 rv.num):=(by rw [(bcell hc).1 _ _ B4s];exact B4c0)
  replace B4c1:u18.cell? ⟨u16.heap.size,1,none⟩=some (.int .i64 rv.den):=(by rw [(bcell hc).1 _ _ B4s];exact B4c1)
  replace B4s:u16.heap.size<u18.heap.size:=(by omega)
  replace DA0:Hid (QueryA false (0) w.heap.size u18 nv0 a0 n0 c0 xs0 ua0 un0 uc0 us0):=hid (beQuery DA0.out hc (by omega))
  replace DGL:Hid (GlobW u18):=hid (beGlob DGL.out hc (by omega))
  replace DW:Hid (RatsA false (u1.heap.size) u3.heap.size u18 aW nW cW dxs):=hid (beRats DW.out hc (by omega))
  replace DM:Hid (RatsA true (u4.heap.size+1) u5.heap.size u18 aG nG cG (mkRats 1 (dxs).length)):=hid (beRats DM.out hc (by omega))
  replace Dh0:Hid (QueryA true (u14.heap.size) u15.heap.size u18 nv0 ah0 nh0 ch0 xs0 uah0 unh0 uch0 us0):=hid (beQuery Dh0.out hc (by omega))
  replace DE:Hid (RatsA true (u15.heap.size) u16.heap.size u18 aE nE cE dxs):=hid (beRats DE.out hc (by omega))
  replace HW:Hid (Below w.heap.size w u18):=hid (Below.calm HW.out hc)
  clear hb hc
  go_wp2_with fail
  refine (heldK_Rats aG nG cG dxs 1 _ (beRats (B:=u18.heap.size) DM.out belA leA) leA (by omega) (by omega) HSG.out).mono ?_
  rintro e u19 ⟨rfl,hb⟩
  rw [← HLG.out,← HKM.out]
  have hc:Below u18.heap.size u18 u19:=Below.trans belA (hb.mono leA)
  have z19:u18.heap.size≤u19.heap.size:=hc.size
  replace B0c0:u19.cell? ⟨w.heap.size,0,none⟩=some (.int .i64 nv0):=(by rw [(bcell hc).1 _ _ B0s];exact B0c0)
  replace B0c1:u19.cell? ⟨w.heap.size,1,none⟩=some (.slice a0 n0 c0):=(by rw [(bcell hc).1 _ _ B0s];exact B0c1)
  replace B0c2:u19.cell? ⟨w.heap.size,2,none⟩=some (.slice ua0 un0 uc0):=(by rw [(bcell hc).1 _ _ B0s];exact B0c2)
  replace B0s:w.heap.size<u19.heap.size:=(by omega)
  replace B1c0:u19.cell? ⟨u3.heap.size,0,none⟩=some (.int .i64 rv.num):=(by rw [(bcell hc).1 _ _ B1s];exact B1c0)
  replace B1c1:u19.cell? ⟨u3.heap.size,1,none⟩=some (.int .i64 rv.den):=(by rw [(bcell hc).1 _ _ B1s];exact B1c1)
  replace B1s:u3.heap.size<u19.heap.size:=(by omega)
  replace B2c0:u19.cell? ⟨u4.heap.size,0,none⟩=some (.int .i64 nv0):=(by rw [(bcell hc).1 _ _ B2s];exact B2c0)
  replace B2c1:u19.cell? ⟨u4.heap.size,1,none⟩=some (.slice ax0 nx0 cx0):=(by rw [(bcell hc).1 _ _ B2s];exact B2c1)
  replace B2c2:u19.cell? ⟨u4.heap.size,2,none⟩=some (.slice uax0 unx0 ucx0):=(by rw [(bcell hc).1 _ _ B2s];exact B2c2)
  replace B2s:u4.heap.size<u19.heap.size:=(by omega)
  replace B3c0:u19.cell? ⟨u5.heap.size,0,none⟩=some (.int .i64 rv.num):=(by rw [(bcell hc).1 _ _ B3s];exact B3c0)
  replace B3c1:u19.cell? ⟨u5.heap.size,1,none⟩=some (.int .i64 rv.den):=(by rw [(bcell hc).1 _ _ B3s];exact B3c1)
  replace B3s:u5.heap.size<u19.heap.size:=(by omega)
  replace B4c0:u19.cell? ⟨u16.heap.size,0,none⟩=some (.int .i64 rv.num):=(by rw [(bcell hc).1 _ _ B4s];exact B4c0)
  replace B4c1:u19.cell? ⟨u16.heap.size,1,none⟩=some (.int .i64 rv.den):=(by rw [(bcell hc).1 _ _ B4s];exact B4c1)
  replace B4s:u16.heap.size<u19.heap.size:=(by omega)
  replace DA0:Hid (QueryA false (0) w.heap.size u19 nv0 a0 n0 c0 xs0 ua0 un0 uc0 us0):=hid (beQuery DA0.out hc (by omega))
  replace DGL:Hid (GlobW u19):=hid (beGlob DGL.out hc (by omega))
  replace DW:Hid (RatsA false (u1.heap.size) u3.heap.size u19 aW nW cW dxs):=hid (beRats DW.out hc (by omega))
  replace DM:Hid (RatsA true (u4.heap.size+1) u5.heap.size u19 aG nG cG (mkRats 1 (dxs).length)):=hid (beRats DM.out hc (by omega))
  replace Dh0:Hid (QueryA true (u14.heap.size) u15.heap.size u19 nv0 ah0 nh0 ch0 xs0 uah0 unh0 uch0 us0):=hid (beQuery Dh0.out hc (by omega))
  replace DE:Hid (RatsA true (u15.heap.size) u16.heap.size u19 aE nE cE dxs):=hid (beRats DE.out hc (by omega))
  replace HW:Hid (Below w.heap.size w u19):=hid (Below.calm HW.out hc)
  clear hb hc
  go_wp2_with fail
  go_ret
  exact ⟨rfl,HW.out⟩
 ·rw [szI_no hsz0]
  have HQ0:=hid hsz0;clear hsz0
  go_wp2_with fail
  go_ret
  exact ⟨rfl,HW.out⟩
end Go.Proofs.YteiaofkgbdlpoaaDoor
namespace Go.Proofs.YteiaofkgbdlpoaaDoor
set_option linter.unusedSimpArgs false
set_option linter.unusedVariables false
open Go.ChangeShapes Go.WideShapes Go.ChangeAt Go.RowKit Go.Deep
theorem own:ownKnob Tryd.prog.godebug=none:=by kernel_rfl
theorem laidOut:laidOutB Tryd.prog=true:=by kernel_rfl
def ReadsBy {α:Type} (R:Rep α) (t:TypeId):Prop :=
 ∀ {H:Type} (enc:TypeId×Value→H) (W:World) (fuel:Nat) (cs:List Value) (x:DataW H×List MemPlace),DataW.trod enc Tryd.prog W 0 (fun _=>true) true fuel t cs=some x→∃ y,R false 0 W.heap.size W cs y
theorem reads_ints:ReadsBy intsR 23:=by
 intro H enc W fuel cs x h
 rcases open_ints Tryd.underlying23 Tryd.underlying3 (by kernel_rfl) h with ⟨hcs,_⟩ | ⟨a,l,c,zs,hcs,_,hl,hm,hz,_,hcell,hwz⟩
 ·exact ⟨[],none,0,0,hcs,intsA_nil W⟩
 ·exact ⟨zs.take l,some a,l,c,hcs,intsA_of_cells hl hm (by simpa using hz) hcell hwz⟩
theorem cells_at {w:World} {base:Nat} {a:Addr} {k:Nat} {cs:List Value} (h:w.cells? base a k=some cs):cs.length=k∧∀ j,j<k→w.cell? (a.add j)=some (cs.getD j undef):=by
 obtain ⟨_,hlen,hc⟩:=World.cells?_some h
 exact ⟨hlen,fun j hj=>by
  have:=hc j (by omega)
  simpa [List.getD,List.getElem?_eq_getElem (show j<cs.length by omega)] using this⟩
theorem reads_slice {α:Type} {R:Rep α} {t e k:Nat} (ht:Tryd.prog.underlying t=some (.slice e)) (hk:Tryd.prog.cellsOf e=k) (hk0:0<k) (hR:ReadsBy R e) :
 ∀ {H:Type} (enc:TypeId×Value→H) (W:World) (fuel:Nat) (cs:List Value) (x:DataW H×List MemPlace),DataW.trod enc Tryd.prog W 0 (fun _=>true) true fuel t cs=some x →
  ∃ a n c xs,cs=[.slice a n c]∧SlA k R false 0 W.heap.size W a n c xs:=by
 intro H enc W fuel cs x h
 rcases open_slice ht h with ⟨hcs,_⟩ | ⟨a,len,cap,m,n,D,Pl,rfl,_,hl,hm,hmm,_,hx⟩
 ·exact ⟨none,0,0,[],hcs,rfl,Nat.le_refl _,by simp [maxLen],fun h=>by omega,fun _=>rfl⟩
 ·simp only [if_true] at hmm
  subst hmm
  rw [hk] at hx
  have each:∀ i,i<m→∃ y:List Value×α,y.1.length=k∧R false 0 W.heap.size W y.1 y.2∧∀ j,j<k→W.cell? ((a.add (i*k)).add j)=some (y.1.getD j undef):=by
   intro i hi
   obtain ⟨cs',h1,h2⟩:=hx i hi
   obtain ⟨y,hy⟩:=hR enc W n cs' _ h2
   obtain ⟨g1,g2⟩:=cells_at h1
   exact ⟨(cs',y),g1,hy,g2⟩
  refine ⟨some a,len,m,?_⟩
  by_cases hm0:m=0
  ·refine ⟨[],rfl,?_,hl,hm,fun h=>by omega,fun h=>(by cases h)⟩
   simp;omega
  ·haveI:Inhabited α:=⟨(Classical.choose (each 0 (by omega))).2⟩
   obtain ⟨y,hy⟩:=choose_lt each
   obtain ⟨b,off,spot⟩:=a
   have h1:=(hy 0 (by omega)).2.2 0 hk0
   have hspot:spot=none:=by
    cases spot with
    | none=>rfl
    | some s=>simp [Addr.add,World.cell?] at h1;split at h1 <;> simp at h1
   subst hspot
   have hblk:=World.block_lt_of_cell? W _ h1
   refine ⟨(List.range len).map fun i=>(y i).2,rfl,by simp,hl,hm,fun hn=>⟨b,off,rfl,Nat.zero_le _,by simpa [Addr.add] using hblk,fun i hi=>?_⟩,fun h=>(by cases h)⟩
   obtain ⟨g1,g2,g3⟩:=hy i (by omega)
   refine ⟨(y i).1,(y i).2,g1,by simp [hi],g2,fun j hj=>⟨?_,fun h=>(by cases h)⟩⟩
   have:=g3 j hj
   rwa [Addr.add_lit,Addr.add_lit] at this
theorem reads_intsA {H:Type} (enc:TypeId×Value→H) (W:World) (fuel:Nat) (cs:List Value) (x:DataW H×List MemPlace) (h:DataW.trod enc Tryd.prog W 0 (fun _=>true) true fuel 23 cs=some x) :
 ∃ a n c xs,cs=[.slice a n c]∧IntsA false 0 W.heap.size W a n c xs:=by
 obtain ⟨xs,a,n,c,h1,h2⟩:=reads_ints enc W fuel cs x h
 exact ⟨a,n,c,xs,h1,h2⟩
end Go.Proofs.YteiaofkgbdlpoaaDoor
namespace Go.Proofs.YteiaofkgbdlpoaaDoor
set_option linter.unusedSimpArgs false
set_option linter.unusedVariables false
open Go.ChangeShapes Go.WideShapes Go.ChangeAt Go.RowKit Go.Deep
theorem cellsStrA:Tryd.prog.cellsOf 9=1:=by kernel_rfl
theorem cellsIntsA:Tryd.prog.cellsOf 23=1:=by kernel_rfl
theorem cellsAtomA:Tryd.prog.cellsOf 67=2:=by kernel_rfl
set_option maxRecDepth 100000 in
theorem reads_atomC {H:Type} (enc:TypeId×Value→H) (W:World) (fuel:Nat) (cs:List Value) (x:DataW H×List MemPlace)
 (h:DataW.trod enc Tryd.prog W 0 (fun _=>true) true fuel 67 cs=some x):∃ s a n c xs,cs=[.string s,.slice a n c]∧AtomA false 0 W.heap.size W s a n c xs:=by
 obtain ⟨y0,y1,m,_,hl,h0,h1⟩:=trod_struct2 Tryd.underlying67 h
 rw [cellsAtomA] at hl
 match cs,hl with
 | [c0,c1],_ =>
  simp only [List.drop_zero,List.drop_succ_cons,cellsStrA,cellsIntsA,List.take_succ_cons,List.take_zero] at h0 h1
  obtain ⟨s,e0,_,hw⟩:=DataW.trod_string Tryd.underlying9 h0
  obtain ⟨a,n,c,xs,e1,hR⟩:=reads_intsA enc W m _ _ h1
  simp only [List.cons.injEq,and_true] at e0 e1
  subst e0;subst e1
  exact ⟨s,a,n,c,xs,rfl,hw,hR⟩
end Go.Proofs.YteiaofkgbdlpoaaDoor
namespace Go.Proofs.YteiaofkgbdlpoaaDoor
set_option linter.unusedSimpArgs false
set_option linter.unusedVariables false
open Go.ChangeShapes Go.WideShapes Go.ChangeAt Go.RowKit Go.Deep
theorem cellsAtomsQ:Tryd.prog.cellsOf 22=1:=by kernel_rfl
theorem cellsIntQ:Tryd.prog.cellsOf 3=1:=by kernel_rfl
theorem cellsQuery:Tryd.prog.cellsOf 25=3:=by kernel_rfl
set_option maxRecDepth 100000 in
theorem reads_atomBy:ReadsBy atomR 67:=by
 intro H enc W fuel cs x h
 obtain ⟨s,a,n,c,xs,hcs,hD⟩:=reads_atomC enc W fuel cs x h
 exact ⟨⟨s,xs⟩,a,n,c,hcs,hD.1,hD.2⟩
set_option maxRecDepth 100000 in
theorem reads_atomsA {H:Type} (enc:TypeId×Value→H) (W:World) (fuel:Nat) (cs:List Value) (x:DataW H×List MemPlace) (h:DataW.trod enc Tryd.prog W 0 (fun _=>true) true fuel 22 cs=some x) :
 ∃ a n c xs,cs=[.slice a n c]∧AtomsA false 0 W.heap.size W a n c xs:=reads_slice Tryd.underlying22 cellsAtomA (by omega) reads_atomBy enc W fuel cs x h
set_option maxRecDepth 100000 in
theorem reads_queryC {H:Type} (enc:TypeId×Value→H) (W:World) (fuel:Nat) (cs:List Value) (x:DataW H×List MemPlace)
 (h:DataW.trod enc Tryd.prog W 0 (fun _=>true) true fuel 25 cs=some x) :
 ∃ nv a n c xs ua un uc us,cs=[.int .i64 nv,.slice a n c,.slice ua un uc]∧QueryA false 0 W.heap.size W nv a n c xs ua un uc us:=by
 obtain ⟨ys,m,_,_,hl,hlen,hf⟩:=DataW.trod_struct Tryd.underlying25 h
 rw [cellsQuery] at hl
 match ys,hlen with
 | [y0,y1,y2],_ =>
  match cs,hl with
  | [c0,c1,c2],_ =>
   have h0:=hf 0 _ rfl
   have h1:=hf 1 _ rfl
   have h2:=hf 2 _ rfl
   change DataW.trod enc Tryd.prog W 0 (fun _=>true) true m 3 (([c0,c1,c2].drop 0).take (Tryd.prog.cellsOf 3))=some y0 at h0
   change DataW.trod enc Tryd.prog W 0 (fun _=>true) true m 22 (([c0,c1,c2].drop 1).take (Tryd.prog.cellsOf 22))=some y1 at h1
   change DataW.trod enc Tryd.prog W 0 (fun _=>true) true m 23 (([c0,c1,c2].drop 2).take (Tryd.prog.cellsOf 23))=some y2 at h2
   rw [cellsIntQ] at h0
   rw [cellsAtomsQ] at h1
   rw [cellsIntsA] at h2
   simp only [List.drop_zero,List.drop_succ_cons,List.take_succ_cons,List.take_zero] at h0 h1 h2
   obtain ⟨nv,e0,_,hw⟩:=DataW.trod_int Tryd.underlying3 h0
   obtain ⟨a,n,c,xs,e1,hR⟩:=reads_atomsA enc W m _ _ h1
   obtain ⟨ua,un,uc,us,e2,hR2⟩:=reads_intsA enc W m _ _ h2
   simp only [List.cons.injEq,and_true] at e0 e1 e2
   subst e0;subst e1;subst e2
   exact ⟨nv,a,n,c,xs,ua,un,uc,us,rfl,i64_of_wf hw,hR,hR2⟩
set_option maxRecDepth 100000 in
theorem reads_query {H:Type} (enc:TypeId×Value→H) (W:World) {base:Nat} {v:Value} {d:DataW H} {p:List MemPlace} (hv:Value.okWide Tryd.prog W .any base 25 v)
 (h:DataW.Trod enc Tryd.prog W 0 (fun _=>true) true 25 v d p) :
 ∃ nv a n c xs ua un uc us,v=queryV nv a n c ua un uc∧QueryA false 0 W.heap.size W nv a n c xs ua un uc us:=by
 obtain ⟨cs,rfl,hsz⟩:=okWide_struct Tryd.underlying25 hv
 obtain ⟨fuel,hf⟩:=h
 obtain ⟨nv,a,n,c,xs,ua,un,uc,us,hcs,hD⟩:=reads_queryC enc W fuel _ _ hf
 obtain ⟨l⟩:=cs
 simp only [Value.cells] at hcs
 subst hcs
 exact ⟨nv,a,n,c,xs,ua,un,uc,us,rfl,hD⟩
end Go.Proofs.YteiaofkgbdlpoaaDoor
