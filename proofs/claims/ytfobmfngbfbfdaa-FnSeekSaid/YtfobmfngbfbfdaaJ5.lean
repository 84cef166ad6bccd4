/- Lemmas for the proof of FnIteration, part 10 of 22: no condition of their own. -/
import Derived.Test.YtfobmfngbfbfdaaJ4
namespace Go.Proofs.Ytfobmfngbfbfdaa
set_option linter.unusedSimpArgs false
set_option linter.unusedVariables false
open Go.RowKit
theorem elemInt1:ElemF 27 3 1 8:=⟨Try.underlying27,by obtain ⟨i0,h1,h2,h3,h4⟩:=info_parts infoInt;exact ⟨i0,_,h1,h2,h3,h4,rfl⟩,by omega,by omega⟩
theorem elemRowI:Elem 24 27 24:=⟨Try.underlying24,by obtain ⟨i0,h1,h2,h3,h4⟩:=info_parts infoRow;exact ⟨i0,_,h1,h2,h3,h4,rfl⟩,by omega⟩
theorem intsFlat {fz:Bool} {lo hi:Nat} {w:World} {a:Option Addr} {n c:Nat} {xs:List Int} (h:IntsA fz lo hi w a n c xs):FlatA 1 lo hi w a n c (xs.map (Value.int .i64)):=by
 refine ⟨by simp [h.len],h.2.1,h.2.2.1,ints_oneCell .i64 xs,fun hn=>?_,h.2.2.2.2.2⟩
 obtain ⟨b,off,ha,hl,hb,hc,_⟩:=h.open hn
 refine ⟨b,off,ha,hl,hb,fun i u hu=>?_⟩
 have hi:i<xs.length:=by have:=(List.getElem?_eq_some_iff.1 hu).1;simpa using this
 rw [List.getElem?_map,List.getElem?_eq_getElem hi] at hu
 simp at hu;subst hu
 rw [hc i (by rw [← h.len];exact hi),ix_lt hi]
theorem intsOf {base:Nat} {w:World} {a:Option Addr} {n c:Nat} {xs:List Int} (h:OwnF 3 1 base w a n c (xs.map (Value.int .i64))) (h64:∀ x∈xs,I64 x):Own base w a n c xs:=⟨h.1,h64⟩
def RoomA (s t:Nat) (w:World) (a:Option Addr) (n c:Nat):Prop:=n<c→∃ b off,a=some ⟨b,off,none⟩∧s≤b∧b<t∧(w.cell? ⟨b,off+n,none⟩).isSome=true∧w.frozen? ⟨b,off+n,none⟩=false
theorem RoomA.keep {s t:Nat} {w w':World} {a:Option Addr} {n c:Nat} (h:RoomA s t w a n c) (hk:Keeps s t w w'):RoomA s t w' a n c:=fun hn=>by
 obtain ⟨b,off,h1,h2,h3,h4,h5⟩:=h hn
 exact ⟨b,off,h1,h2,h3,by rw [World.cell?_of_block (w:=w) (hk b h2 h3)];exact h4,by rw [World.frozen?_of_block (w:=w) (hk b h2 h3)];exact h5⟩
theorem RoomA.wide {s t s' t':Nat} {w:World} {a:Option Addr} {n c:Nat} (h:RoomA s t w a n c) (h1:s'≤s) (h2:t≤t'):RoomA s' t' w a n c:=fun hn=>by
 obtain ⟨b,off,g1,g2,g3,g⟩:=h hn
 exact ⟨b,off,g1,by omega,by omega,g⟩
def intsX:RowP (List Int):=fun lo hi w a n c xs=>IntsA true lo hi w a n c xs∧RoomA lo hi w a n c
theorem intsXOK:RowPOK intsX:=⟨fun h hk=>⟨IntsA.keep h.1 hk,h.2.keep hk⟩,fun h h1 h2=>⟨IntsA.wide h.1 h1 h2,h.2.wide h1 h2⟩⟩
theorem Own.headX {base:Nat} {w:World} {a:Option Addr} {n c:Nat} {xs:List Int} (h:Own base w a n c xs) (hb:base≤w.heap.size) (hn:0<n):∃ s t,base≤s∧t≤w.heap.size∧intsX s t w a n c xs∧HeadI w s t:=by
 obtain ⟨s,t,g1,g2,g3,g4⟩:=Own.head h hb
 refine ⟨s,t,g1,g2,⟨g3,fun hnc=>?_⟩,g4⟩
 rcases h.1.2 with ⟨h2,h3⟩ | ⟨g,cap,cur,hv,hbg,hg,h4,h5,h6,h7⟩
 ·simp only [Value.slice.injEq] at h2;omega
 ·simp only [Value.slice.injEq] at hv
  obtain ⟨rfl,_,rfl⟩:=hv
  obtain ⟨b,off,ha,k1,k2,_⟩:=g3.open hn
  simp only [Option.some.injEq,Addr.mk.injEq,and_true] at ha
  obtain ⟨rfl,rfl⟩:=ha
  refine ⟨g,0,rfl,k1,k2,?_,frozen_of_row w g (0+n) cur _ hg⟩
  have hlt:n<cur.size:=by omega
  simp [World.cell?,hg,hlt]
theorem run_append_ints {lo hi:Nat} {fz:Bool} {w:World} (ty:TypeId) (g:Nat) (hg:w.heap[g]? = some (.cells #[] 3 (0,0)))
 (ao:Option Addr) (m c:Nat) (xs:List Int) (hI:IntsA fz lo hi w ao m c xs) (hb:m≤16777216) :
 ∃ a' c' w' s t,(Builtin.append_ #[27,27] ty #[.slice (some ⟨g,0,none⟩) 0 0,.slice ao m c]).run Try.prog w=.ok (.slice a' m c') w'∧Below w.heap.size w w'∧w.heap.size≤s∧t≤w'.heap.size∧intsX s t w' a' m c' xs∧HeadI w' s t:=by
 obtain ⟨a',c',w',hr,hB,ho,h1,h2,h3⟩:=run_append_empty elemInt1 ty g hg ao m c _ (intsFlat hI) hb
 by_cases hm:0<m
 ·obtain ⟨s,t,g1,g2,g3,g4⟩:=Own.headX (intsOf (ho hm) hI.2.2.2.1) hB.size hm
  exact ⟨a',c',w',s,t,hr,hB,g1,g2,g3,g4⟩
 ·refine ⟨a',c',w',w.heap.size,w.heap.size,hr,hB,Nat.le_refl _,hB.size,⟨⟨hI.len,h1,h2,hI.2.2.2.1,fun h=>absurd h hm,h3⟩,fun hmc=>?_⟩,fun h=>by omega⟩
  exfalso
  obtain ⟨i0,z,hi0,hz0,hz1,hz2,hz3⟩:=elemInt1.info
  obtain rfl:m=0:=by omega
  have hown:OwnF 3 1 g w (some ⟨g,0,none⟩) 0 0 []:=ownF_empty 3 1 w g g (Nat.le_refl _) hg
  cases ao with
  | none =>
   have hc0:=hI.2.2.2.2.2 rfl
   subst hc0
   rw [run_append_owned_none (P:=Try.prog) (w:=w) g 27 ty 3 i0 1 elemInt1.under hi0 _ 0 _ hown.1] at hr
   simp only [Result.ok.injEq,Value.slice.injEq] at hr
   omega
  | some ad =>
   rw [run_append_room (P:=Try.prog) w 27 ty 3 i0 elemInt1.under hi0 g 0 0 #[] hg ad 0 c [] (by simp) (fun j u hj=>by simp at hj) (fun u hu=>(by cases hu)) (by omega) (by simp)] at hr
   simp only [Result.ok.injEq,Value.slice.injEq] at hr
   omega
def GvApart (w:World) (n:Nat) (xs:List Int) (e:Ending) (w':World):Prop:=∃ a c s t,e=.returned (.slice a n c)∧Below w.heap.size w w'∧w.heap.size≤s∧t≤w'.heap.size∧intsX s t w' a n c xs∧HeadI w' s t
set_option maxHeartbeats 1600000 in
theorem implCopyInts {fz:Bool} {lo hi:Nat} (a:Option Addr) (n c:Nat) (xs:List Int) (w:World) (hI:IntsA fz lo hi w a n c xs) (hh:hi≤w.heap.size) (hn:n≤1048576) :
 Calls Try.prog 50 #[.slice a n c] w (GvApart w n xs):=by
 obtain ⟨a1,c1,w3,s,t,hr,hb3,k1,k2,k3,k4⟩:=run_append_ints (w:=w.alloc (.cells #[] 3)) 27 w.heap.size (heap_alloc_new _ _) a n c xs (hI.al hh _) (by omega)
 have HK:=hid (And.intro hb3 (And.intro k1 (And.intro k2 (And.intro k3 k4))));clear hb3 k1 k2 k3 k4 hI
 go_enter Try.func50,Try.ntmps50
 go_wp2_with (at_builtin;refine wpList_plain rfl fun K hK=>?_;unfold Oper.wp;simp [execOp,resolve,invoke,builtin,Act.eval,hr,Result.andThen];refine hK _ _ ?_)
 go_wp2
 go_ret
 exact ⟨a1,c1,s,t,rfl,Below.trans belA (HK.out.1.mono (by simp)),by have:=HK.out.2.1;simp at this;omega,HK.out.2.2.1,HK.out.2.2.2.1,HK.out.2.2.2.2⟩
def GvRowsS (w:World) (n:Nat) (xss:List (List Int)) (e:Ending) (w':World):Prop:=∃ a c,e=.returned (.slice a n c)∧RowsS w.heap.size w'.heap.size w' a n c xss∧Below w.heap.size w w'
theorem grown_laterI {e:TypeId} {base:Nat} {w0 w w':World} {a:Option Addr} {n c:Nat} {vs:List Value} (ho:OwnV e base w0 a n c vs) (hg:w.grownBy w' (Value.slice a n c).ownBlock) {s t:Nat} (h1:w0.heap.size≤s) (h2:t≤w.heap.size):Keeps s t w w':=by
 intro k hk1 hk2
 refine hg.block _ (by omega) ?_
 intro e'
 have:=ho.1.lt k e'.symm
 omega
theorem OwnV.grow1I {e:TypeId} {B B0:Nat} {w wr w1:World} {o1:Obj} {a:Option Addr} {n c:Nat} {vs:List Value} (h:OwnV e B wr a n c vs) (hb:Below B0 w wr) (h0:B0≤B) (hB:B0≤wr.heap.size) (hg:(wr.alloc o1).grownBy w1 (Value.slice a n c).ownBlock):Below B0 w w1 :=
 (hb.alloc hB o1).grown hg (by simp;omega) (fun k hk=>by have:=h.1.lt k hk;omega)
theorem take_snocR (xss:List (List Int)) {k:Nat} (h:k<xss.length):xss.take (k+1)=xss.take k ++ [rx xss k]:=by
 rw [List.take_succ_eq_append_getElem h,rx_lt h]
set_option maxRecDepth 100000 in
set_option maxHeartbeats 3200000 in
theorem implCopyRows {fz:Bool} {lo hi:Nat} (a:Option Addr) (n c:Nat) (xss:List (List Int)) (w:World) (hI:RowsA fz lo hi w a n c xss) (hh:hi≤w.heap.size) (hs:rowsSz xss≤1048576) :
 Calls Try.prog 49 #[.slice a n c] w (GvRowsS w n xss):=by
 have hl:=hI.len
 have hn:n≤1048576:=by unfold rowsSz at hs;omega
 have HL:=hid hl;have HS:=hid hs;clear hl hs
 go_enter Try.func49,Try.ntmps49
 go_wp2_with fail
 go_loopw [8,3,5] (fun i v _ wr=>∃ (k:Nat) (oo:Option Addr) (om oc:Nat) (vs:List Value),i=.int .i64 k∧v=.slice oo om oc∧k≤n∧Hid (OwnV 27 w.heap.size wr oo om oc vs∧SepV intsQ w.heap.size wr.heap.size wr vs (xss.take k))∧Hid (Below w.heap.size w wr)) (fun i _ _ _=>n - (intOf i).toNat)
 case atStart=>exact ⟨0,_,0,0,[],rfl,rfl,by omega,hid ⟨ownV_nil _ _ _,SepV.nil _ _ _ _⟩,hid (Below.refl _ _)⟩
 case round =>
  obtain ⟨k,oo,om,oc,vs,rfl,rfl,hk,HO,HB⟩:=hrel
  have hom:om=k:=by have h1:=HO.out.1.len;have h2:=HO.out.2.1;have h3:=HL.out;rw [List.length_take] at h2;omega
  have homb:om≤1048576:=by omega
  have HOM:=hid hom;clear hom
  have hzr:=HB.out.size
  by_cases hlt:k<n
  ·have hIr:RowsA fz lo hi wr a n c xss:=SlA.be intsOK hI HB.out hh
   obtain ⟨b,off,rfl⟩:=hIr.some (by omega)
   obtain ⟨_,_,ra,rn,rc,d0,hr,_⟩:=hIr.at hlt
   have hrl:=hr.len
   have hrn:rn≤1048576:=by have:=rowsSz_row HS.out k;omega
   have HI:=hid (And.intro hIr hr);clear hIr hr hrl
   go_wp2_with fail
   refine (implCopyInts ra rn rc (rx xss k) wr HI.out.2 (by omega) hrn).mono ?_
   rintro e w2 ⟨a2,c2,s,t,rfl,hb2,k1,k2,k3,k4⟩
   have hz2:=hb2.size
   have HOV:=hid (And.intro (HO.out.1.keep (Keeps.of_below hb2 (Nat.le_refl _))) (SepV.keep intsQOK HO.out.2 (Keeps.of_below hb2 (Nat.le_refl _))))
   have HB2:=hid (HB.out.trans (hb2.mono (by omega)))
   have HK:=hid (And.intro k3.1 k4);clear hb2 k3 k4
   go_wp2_with (at_builtin;refine wpAppV elemRowI rfl (.tmp 12) (.tmp 15) rfl w.heap.size oo om oc vs rfl (HOV.out.1.alloc _) _ 1 1 [.slice a2 rn c2] rfl (vals_one _ _ 27 _ rfl 0 _ (Nat.zero_le _) (Nat.lt_succ_self _) (heap_alloc_new _ _)) (by omega) (by first | omega | (simp;omega)) ?_)
   intro a1 c1' w5 ho2 hg2
   have hb5:Below w.heap.size w w5:=HOV.out.1.grow1I HB2.out (Nat.le_refl _) (by omega) hg2
   have hz5:=hg2.size;simp at hz5
   have hkk:=grown_laterI HO.out.1 hg2 (s:=s) (t:=t) k1 (by simp;omega)
   have hrow:intsQ s t w5 a2 rn c2 (rx xss k):=IntsA.keep (HK.out.1.keep (Keeps.al (Keeps.refl _ _ _) k2 _)) hkk
   have hd5:HeadI w5 s t:=(HK.out.2.keep (Keeps.al (Keeps.refl s t _) k2 _) (Nat.le_refl _) (Nat.le_refl _)).keep hkk (Nat.le_refl _) (Nat.le_refl _)
   have hsv5:SepV intsQ w.heap.size wr.heap.size w5 vs (xss.take k):=SepV.grown intsQOK (SepV.keep intsQOK HOV.out.2 (Keeps.al (Keeps.refl _ _ _) (by omega) _)) (HOV.out.1.alloc _) hg2 (by simp;omega)
   have HS5:=hid (hsv5.snoc (hi':=w5.heap.size) hrow hd5 (by omega) k1 (by omega) (by omega))
   have HO5:=hid ho2;have HB5:=hid hb5
   clear ho2 hg2 hb5 hz5 hkk hrow hd5 hsv5 k1 k2
   go_wp2_with fail
   go_roundw
   case rel=>exact ⟨k+1,a1,om+1,c1',_,by go_num,rfl,by omega,hid ⟨HO5.out,by rw [take_snocR xss (by rw [HL.out];exact hlt)];exact HS5.out⟩,HB5⟩
   case measure=>simp [intOf];omega
  ·obtain rfl:n=k:=by omega
   go_wp2_with fail
   go_ret
   obtain rfl:om=n:=HOM.out
   exact ⟨_,_,rfl,SepA.own HO.out.1 (by have h:=HO.out.2;rwa [List.take_of_length_le (by rw [HL.out];exact Nat.le_refl _)] at h),HB.out⟩
end Go.Proofs.Ytfobmfngbfbfdaa
namespace Go.Proofs.Ytfobmfngbfbfdaa
set_option linter.unusedSimpArgs false
set_option linter.unusedVariables false
open Go.RowKit
def GvIterS (w:World) (ar:Int) (rows:List (List Int)) (lw gh ps:List Int) (e:Ending) (w':World):Prop :=
 ∃ a n c la ln lc ga gn gc pa pn pc,e=.returned (iterV ar a n c la ln lc ga gn gc pa pn pc)∧IterS w.heap.size w'.heap.size w' ar a n c rows la ln lc lw ga gn gc gh pa pn pc ps∧Below w.heap.size w w'
def IterX (lo hi:Nat) (w:World) (ar:Int) (a:Option Addr) (n c:Nat) (rows:List (List Int)) (la:Option Addr) (ln lc:Nat) (lw:List Int) (ga:Option Addr) (gn gc:Nat) (gh:List Int) (pa:Option Addr) (pn pc:Nat) (ps:List Int):Prop :=
 I64 ar∧∃ s0 t0 s1 t1 s2 t2 s3 t3,RowsS s0 t0 w a n c rows∧intsX s1 t1 w la ln lc lw∧intsX s2 t2 w ga gn gc gh∧intsX s3 t3 w pa pn pc ps∧Apart4 lo hi s0 t0 s1 t1 s2 t2 s3 t3
section
variable {lo hi B lo' hi':Nat} {w w':World} {ar:Int} {a:Option Addr} {n c:Nat} {rows:List (List Int)} {la:Option Addr} {ln lc:Nat} {lw:List Int} {ga:Option Addr} {gn gc:Nat} {gh:List Int} {pa:Option Addr} {pn pc:Nat} {ps:List Int}
theorem IterX.s (h:IterX lo hi w ar a n c rows la ln lc lw ga gn gc gh pa pn pc ps):IterS lo hi w ar a n c rows la ln lc lw ga gn gc gh pa pn pc ps:=by
 obtain ⟨h64,s0,t0,s1,t1,s2,t2,s3,t3,h0,h1,h2,h3,hA⟩:=h
 exact ⟨h64,s0,t0,s1,t1,s2,t2,s3,t3,h0,h1.1,h2.1,h3.1,hA⟩
theorem kpIterX (h:IterX lo hi w ar a n c rows la ln lc lw ga gn gc gh pa pn pc ps) (hb:Keeps lo hi w w'):IterX lo hi w' ar a n c rows la ln lc lw ga gn gc gh pa pn pc ps:=by
 obtain ⟨h64,s0,t0,s1,t1,s2,t2,s3,t3,h0,h1,h2,h3,hA⟩:=h
 have hA':=hA
 unfold Apart4 at hA'
 exact ⟨h64,s0,t0,s1,t1,s2,t2,s3,t3,SepA.keep intsQOK h0 (hb.mono (by omega) (by omega)),intsXOK.keep h1 (hb.mono (by omega) (by omega)),intsXOK.keep h2 (hb.mono (by omega) (by omega)),intsXOK.keep h3 (hb.mono (by omega) (by omega)),hA⟩
theorem wdIterX (h:IterX lo hi w ar a n c rows la ln lc lw ga gn gc gh pa pn pc ps) (hl:lo'≤lo):IterX lo' hi w ar a n c rows la ln lc lw ga gn gc gh pa pn pc ps:=by
 obtain ⟨h64,s0,t0,s1,t1,s2,t2,s3,t3,h0,h1,h2,h3,hA⟩:=h
 exact ⟨h64,s0,t0,s1,t1,s2,t2,s3,t3,h0,h1,h2,h3,by unfold Apart4 at *;omega⟩
theorem hgIterX (h:IterX lo hi w ar a n c rows la ln lc lw ga gn gc gh pa pn pc ps) (hl:hi≤hi'):IterX lo hi' w ar a n c rows la ln lc lw ga gn gc gh pa pn pc ps:=by
 obtain ⟨h64,s0,t0,s1,t1,s2,t2,s3,t3,h0,h1,h2,h3,hA⟩:=h
 exact ⟨h64,s0,t0,s1,t1,s2,t2,s3,t3,h0,h1,h2,h3,by unfold Apart4 at *;omega⟩
end
def GvIterX (w:World) (ar:Int) (rows:List (List Int)) (lw gh ps:List Int) (e:Ending) (w':World):Prop :=
 ∃ a n c la ln lc ga gn gc pa pn pc,e=.returned (iterV ar a n c la ln lc ga gn gc pa pn pc)∧IterX w.heap.size w'.heap.size w' ar a n c rows la ln lc lw ga gn gc gh pa pn pc ps∧Below w.heap.size w w'
theorem GvIterX.s {w:World} {ar:Int} {rows:List (List Int)} {lw gh ps:List Int} {e:Ending} {w':World} (h:GvIterX w ar rows lw gh ps e w'):GvIterS w ar rows lw gh ps e w':=by
 obtain ⟨a,n,c,la,ln,lc,ga,gn,gc,pa,pn,pc,h1,h2,h3⟩:=h
 exact ⟨a,n,c,la,ln,lc,ga,gn,gc,pa,pn,pc,h1,h2.s,h3⟩
def pRows (n:Nat) (rows:List (List Int)):PropV:=fun v s t w'=>t≤w'.heap.size∧∃ a' c',v=.slice a' n c'∧RowsS s t w' a' n c' rows
theorem pRows_st (n:Nat) (rows:List (List Int)):StableP (pRows n rows):=fun _ _ _ _ _ ⟨h0,a',c',h1,h2⟩ hb=>⟨Nat.le_trans h0 hb.size,a',c',h1,SepA.keep intsQOK h2 (Keeps.of_below hb h0)⟩
def pAny:PropV:=fun _ _ _ _=>True
theorem pAny_st:StableP pAny:=fun _ _ _ _ _ h _=>h
set_option maxRecDepth 100000 in
set_option maxHeartbeats 12800000 in
theorem implCopyItX {fz:Bool} {lo hi:Nat} (ar:Int) (a:Option Addr) (n c:Nat) (rows:List (List Int)) (la:Option Addr) (ln lc:Nat) (lw:List Int) (ga:Option Addr) (gn gc:Nat) (gh:List Int) (pa:Option Addr) (pn pc:Nat) (ps:List Int) (w:World) (hI:IterA fz lo hi w ar a n c rows la ln lc lw ga gn gc gh pa pn pc ps) (hh:hi≤w.heap.size) (hs:szIter rows lw gh ps≤1048576) :
 Calls Try.prog 27 #[iterV ar a n c la ln lc ga gn gc pa pn pc] w (GvIterX w ar rows lw gh ps):=by
 have hl1:=hI.2.1.len;have hl2:=hI.2.2.1.len;have hl3:=hI.2.2.2.len
 have hsz:rowsSz rows≤1048576∧ln≤1048576∧gn≤1048576∧pn≤1048576:=by unfold szIter at hs;omega
 clear hl1 hl2 hl3 hs
 obtain ⟨W,hW⟩:∃ W,W=(w.alloc (.cells #[.int .i64 ar,.slice a n c,.slice la ln lc,.slice ga gn gc,.slice pa pn pc] 29)).alloc (.cells #[.int .i64 0,.slice none 0 0,.slice none 0 0,.slice none 0 0,.slice none 0 0] 29):=⟨_,rfl⟩
 have hBW:Below w.heap.size w W:=by rw [hW];exact belA
 have hz:W.heap.size=w.heap.size+2:=by rw [hW];simp
 have c0:W.cell? ⟨w.heap.size,0,none⟩=some (.int .i64 ar):=by rw [hW];first | (go_simp;done) | (simp [World.cell?];done)
 have c1:W.cell? ⟨w.heap.size,1,none⟩=some (.slice a n c):=by rw [hW];first | (go_simp;done) | (simp [World.cell?];done)
 have c2:W.cell? ⟨w.heap.size,2,none⟩=some (.slice la ln lc):=by rw [hW];first | (go_simp;done) | (simp [World.cell?];done)
 have c3:W.cell? ⟨w.heap.size,3,none⟩=some (.slice ga gn gc):=by rw [hW];first | (go_simp;done) | (simp [World.cell?];done)
 have c4:W.cell? ⟨w.heap.size,4,none⟩=some (.slice pa pn pc):=by rw [hW];first | (go_simp;done) | (simp [World.cell?];done)
 have q0:W.cell? ⟨w.heap.size+1,0,none⟩=some (.int .i64 0):=by rw [hW];first | (go_simp;done) | (simp [World.cell?];done)
 have f0:W.frozen? ⟨w.heap.size+1,0,none⟩=false:=by rw [hW];first | (go_simp;done) | (simp [World.frozen?];done)
 have q1:W.cell? ⟨w.heap.size+1,1,none⟩=some (.slice none 0 0):=by rw [hW];first | (go_simp;done) | (simp [World.cell?];done)
 have f1:W.frozen? ⟨w.heap.size+1,1,none⟩=false:=by rw [hW];first | (go_simp;done) | (simp [World.frozen?];done)
 have q2:W.cell? ⟨w.heap.size+1,2,none⟩=some (.slice none 0 0):=by rw [hW];first | (go_simp;done) | (simp [World.cell?];done)
 have f2:W.frozen? ⟨w.heap.size+1,2,none⟩=false:=by rw [hW];first | (go_simp;done) | (simp [World.frozen?];done)
 have q3:W.cell? ⟨w.heap.size+1,3,none⟩=some (.slice none 0 0):=by rw [hW];first | (go_simp;done) | (simp [World.cell?];done)
 have f3:W.frozen? ⟨w.heap.size+1,3,none⟩=false:=by rw [hW];first | (go_simp;done) | (simp [World.frozen?];done)
 have q4:W.cell? ⟨w.heap.size+1,4,none⟩=some (.slice none 0 0):=by rw [hW];first | (go_simp;done) | (simp [World.cell?];done)
 have f4:W.frozen? ⟨w.heap.size+1,4,none⟩=false:=by rw [hW];first | (go_simp;done) | (simp [World.frozen?];done)
 have HIW:=hid (beIter hI hBW hh);have HAR:=hid hI.1.1;clear hI
 have hb0:w.heap.size<W.heap.size:=by omega
 have hb1:w.heap.size+1<W.heap.size:=by omega
 have hhW:hi≤W.heap.size:=by omega
 have HBW:=hid hBW;have HW:=hid hW;have HZ:=hid hz;clear hW hBW hz
 go_enter Try.func27,Try.ntmps27
 go_upto_region 1 with fail
 rw [← HW.out]
 refine wp_region_growL (n:=17) (N:=21) (by kernel_rfl) (by kernel_rfl) (by rfl)
  (vp [pEq (.pointer (some ⟨w.heap.size,0,none⟩)),pEq (.pointer (some ⟨w.heap.size,0,none⟩)),pEq (.int .i64 ar),pEq (.pointer (some ⟨w.heap.size,0,none⟩)),pEq (.pointer (some ⟨w.heap.size,1,none⟩)),pEq (.slice a n c),pRows n rows,pAny,pEq (.pointer (some ⟨w.heap.size,2,none⟩)),pEq (.slice la ln lc),pDat intsX ln lw,pEq (.pointer (some ⟨w.heap.size,3,none⟩)),pEq (.slice ga gn gc),pDat intsX gn gh,pEq (.pointer (some ⟨w.heap.size,4,none⟩)),pEq (.slice pa pn pc),pDat intsX pn ps])
  (fun i f=>i=7→f 7=.agg #[.int .i64 ar,f 6]) ?_
  (stab_vp (by
   intro p hp
   simp only [List.mem_cons,List.not_mem_nil,or_false] at hp
   rcases hp with rfl | rfl | rfl | rfl | rfl | rfl | rfl | rfl | rfl | rfl | rfl | rfl | rfl | rfl | rfl | rfl | rfl <;> first | exact pEq_st _ | exact pRows_st _ _ | exact pAny_st | exact pDat_st intsXOK _ _)) ?_ ?_
 ·intro i o f f' ho hL hi hd h7
  subst h7
  obtain rfl:=Option.some.inj ho
  rw [hi,hd ⟨6,.data⟩ (by simp) (by rfl)];exact hL rfl
 ·intro i o hi ho a' w' hB hF hdeps
  rcases (by omega:i=0∨i=1∨i=2∨i=3∨i=4∨i=5∨i=6∨i=7∨i=8∨i=9∨i=10∨i=11∨i=12∨i=13∨i=14∨i=15∨i=16) with rfl | rfl | rfl | rfl | rfl | rfl | rfl | rfl | rfl | rfl | rfl | rfl | rfl | rfl | rfl | rfl | rfl
  ·obtain rfl:=Option.some.inj ho
   have e1:=evTmp (hF.ev 1 (by kernel_rfl) rfl)
   refine stepGL (v:=.pointer (some ⟨w.heap.size,0,none⟩)) (s:=w'.heap.size) (t:=w'.heap.size) (w'':=w') ?_ ?_ ?_ ?_ ?_ ?_
   ·simp [execOp,e1,go_sem]
   ·exact Below.refl _ _
   ·exact Nat.le_refl _
   ·exact Nat.le_refl _
   ·exact rfl
   ·exact fun _ _ _ h=>absurd h (by decide)
  ·obtain rfl:=Option.some.inj ho
   obtain ⟨_,_,e'⟩:=hdeps ⟨0,.data⟩ (by simp) (by rfl) _ 3 rfl rfl
   have e:=evTmp (show a'.eval (.tmp 3)=.pointer (some ⟨w.heap.size,0,none⟩) from e')
   refine stepGL (v:=.pointer (some ⟨w.heap.size,0,none⟩)) (s:=w'.heap.size) (t:=w'.heap.size) (w'':=w') ?_ ?_ ?_ ?_ ?_ ?_
   ·simp [execOp,e,go_sem]
   ·exact Below.refl _ _
   ·exact Nat.le_refl _
   ·exact Nat.le_refl _
   ·exact rfl
   ·exact fun _ _ _ h=>absurd h (by decide)
  ·obtain rfl:=Option.some.inj ho
   obtain ⟨_,_,e'⟩:=hdeps ⟨1,.data⟩ (by simp) (by rfl) _ 4 rfl rfl
   have e:=evTmp (show a'.eval (.tmp 4)=.pointer (some ⟨w.heap.size,0,none⟩) from e')
   have hc:w'.cell? ⟨w.heap.size,0,none⟩=some (.int .i64 ar):=by rw [(bcell hB).1 _ _ hb0];exact c0
   refine stepGL (v:=.int .i64 ar) (s:=w'.heap.size) (t:=w'.heap.size) (w'':=w') ?_ ?_ ?_ ?_ ?_ ?_
   ·simp [execOp,e,go_sem,hc]
   ·exact Below.refl _ _
   ·exact Nat.le_refl _
   ·exact Nat.le_refl _
   ·exact rfl
   ·exact fun _ _ _ h=>absurd h (by decide)
  ·obtain rfl:=Option.some.inj ho
   have e1:=evTmp (hF.ev 1 (by kernel_rfl) rfl)
   refine stepGL (v:=.pointer (some ⟨w.heap.size,0,none⟩)) (s:=w'.heap.size) (t:=w'.heap.size) (w'':=w') ?_ ?_ ?_ ?_ ?_ ?_
   ·simp [execOp,e1,go_sem]
   ·exact Below.refl _ _
   ·exact Nat.le_refl _
   ·exact Nat.le_refl _
   ·exact rfl
   ·exact fun _ _ _ h=>absurd h (by decide)
  ·obtain rfl:=Option.some.inj ho
   obtain ⟨_,_,e'⟩:=hdeps ⟨3,.data⟩ (by simp) (by rfl) _ 6 rfl rfl
   have e:=evTmp (show a'.eval (.tmp 6)=.pointer (some ⟨w.heap.size,0,none⟩) from e')
   refine stepGL (v:=.pointer (some ⟨w.heap.size,1,none⟩)) (s:=w'.heap.size) (t:=w'.heap.size) (w'':=w') ?_ ?_ ?_ ?_ ?_ ?_
   ·simp [execOp,e,go_sem]
   ·exact Below.refl _ _
   ·exact Nat.le_refl _
   ·exact Nat.le_refl _
   ·exact rfl
   ·exact fun _ _ _ h=>absurd h (by decide)
  ·obtain rfl:=Option.some.inj ho
   obtain ⟨_,_,e'⟩:=hdeps ⟨4,.data⟩ (by simp) (by rfl) _ 7 rfl rfl
   have e:=evTmp (show a'.eval (.tmp 7)=.pointer (some ⟨w.heap.size,1,none⟩) from e')
   have hc:w'.cell? ⟨w.heap.size,1,none⟩=some (.slice a n c):=by rw [(bcell hB).1 _ _ hb0];exact c1
   refine stepGL (v:=.slice a n c) (s:=w'.heap.size) (t:=w'.heap.size) (w'':=w') ?_ ?_ ?_ ?_ ?_ ?_
   ·simp [execOp,e,go_sem,hc]
   ·exact Below.refl _ _
   ·exact Nat.le_refl _
   ·exact Nat.le_refl _
   ·exact rfl
   ·exact fun _ _ _ h=>absurd h (by decide)
  ·obtain rfl:=Option.some.inj ho
   obtain ⟨_,_,e2⟩:=hdeps ⟨5,.data⟩ (by simp) (by rfl) _ 8 rfl rfl
   have e2':a'.eval (.tmp 8)=.slice a n c:=e2
   refine stepGLC (f:=49) (args:=#[.slice a n c]) (by simp [execOp,resolve,evTmp e2',Act.eval,Deferred.ofValue,invoke,go_sem]) ?_
   refine (implCopyRows a n c rows w' (SlA.be intsOK HIW.out.1.2 hB hhW) (by have:=hB.size;omega) hsz.1).mono ?_
   rintro e w3 ⟨a1,c1,rfl,k1,hb3⟩
   exact ⟨_,w'.heap.size,w3.heap.size,rfl,hb3,Nat.le_refl _,Nat.le_refl _,⟨Nat.le_refl _,a1,c1,rfl,k1⟩,fun _ _ _ h=>absurd h (by decide)⟩
  ·obtain rfl:=Option.some.inj ho
   obtain ⟨_,_,e5⟩:=hdeps ⟨2,.data⟩ (by simp) (by rfl) _ 5 rfl rfl
   obtain ⟨_,_,_,a6,c6,e9,_⟩:=hdeps ⟨6,.data⟩ (by simp) (by rfl) _ 9 rfl rfl
   have e5':a'.eval (.tmp 5)=.int .i64 ar:=e5
   have e9':a'.eval (.tmp 9)=.slice a6 n c6:=e9
   refine stepGL (v:=.agg #[.int .i64 ar,.slice a6 n c6]) (s:=w'.heap.size) (t:=w'.heap.size) (w'':=w') ?_ ?_ ?_ ?_ ?_ ?_
   ·simp [execOp,evTmp e5',evTmp e9',Act.eval,go_sem]
   ·exact Below.refl _ _
   ·exact Nat.le_refl _
   ·exact Nat.le_refl _
   ·trivial
   ·intro f h1 h2 _;rw [h1,h2 ⟨6,.data⟩ (by simp) (by rfl)];rw [valAt_of (j:=6) (t:=9) rfl rfl,show a'.tmps.getD 9 undef=.slice a6 n c6 from e9]
  ·obtain rfl:=Option.some.inj ho
   have e1:=evTmp (hF.ev 1 (by kernel_rfl) rfl)
   refine stepGL (v:=.pointer (some ⟨w.heap.size,2,none⟩)) (s:=w'.heap.size) (t:=w'.heap.size) (w'':=w') ?_ ?_ ?_ ?_ ?_ ?_
   ·simp [execOp,e1,go_sem]
   ·exact Below.refl _ _
   ·exact Nat.le_refl _
   ·exact Nat.le_refl _
   ·exact rfl
   ·exact fun _ _ _ h=>absurd h (by decide)
  ·obtain rfl:=Option.some.inj ho
   obtain ⟨_,_,e'⟩:=hdeps ⟨8,.data⟩ (by simp) (by rfl) _ 11 rfl rfl
   have e:=evTmp (show a'.eval (.tmp 11)=.pointer (some ⟨w.heap.size,2,none⟩) from e')
   have hc:w'.cell? ⟨w.heap.size,2,none⟩=some (.slice la ln lc):=by rw [(bcell hB).1 _ _ hb0];exact c2
   refine stepGL (v:=.slice la ln lc) (s:=w'.heap.size) (t:=w'.heap.size) (w'':=w') ?_ ?_ ?_ ?_ ?_ ?_
   ·simp [execOp,e,go_sem,hc]
   ·exact Below.refl _ _
   ·exact Nat.le_refl _
   ·exact Nat.le_refl _
   ·exact rfl
   ·exact fun _ _ _ h=>absurd h (by decide)
  ·obtain rfl:=Option.some.inj ho
   obtain ⟨_,_,e2⟩:=hdeps ⟨9,.data⟩ (by simp) (by rfl) _ 12 rfl rfl
   have e2':a'.eval (.tmp 12)=.slice la ln lc:=e2
   refine stepGLC (f:=50) (args:=#[.slice la ln lc]) (by simp [execOp,resolve,evTmp e2',Act.eval,Deferred.ofValue,invoke,go_sem]) ?_
   refine (implCopyInts la ln lc lw w' (HIW.out.2.1.be hB hhW) (by have:=hB.size;omega) hsz.2.1).mono ?_
   rintro e w3 ⟨a1,c1,s,t,rfl,hb3,k1,k2,k3,k4⟩
   exact ⟨_,s,t,rfl,hb3,k1,k2,⟨k2,k4,a1,c1,rfl,k3⟩,fun _ _ _ h=>absurd h (by decide)⟩
  ·obtain rfl:=Option.some.inj ho
   have e1:=evTmp (hF.ev 1 (by kernel_rfl) rfl)
   refine stepGL (v:=.pointer (some ⟨w.heap.size,3,none⟩)) (s:=w'.heap.size) (t:=w'.heap.size) (w'':=w') ?_ ?_ ?_ ?_ ?_ ?_
   ·simp [execOp,e1,go_sem]
   ·exact Below.refl _ _
   ·exact Nat.le_refl _
   ·exact Nat.le_refl _
   ·exact rfl
   ·exact fun _ _ _ h=>absurd h (by decide)
  ·obtain rfl:=Option.some.inj ho
   obtain ⟨_,_,e'⟩:=hdeps ⟨11,.data⟩ (by simp) (by rfl) _ 14 rfl rfl
   have e:=evTmp (show a'.eval (.tmp 14)=.pointer (some ⟨w.heap.size,3,none⟩) from e')
   have hc:w'.cell? ⟨w.heap.size,3,none⟩=some (.slice ga gn gc):=by rw [(bcell hB).1 _ _ hb0];exact c3
   refine stepGL (v:=.slice ga gn gc) (s:=w'.heap.size) (t:=w'.heap.size) (w'':=w') ?_ ?_ ?_ ?_ ?_ ?_
   ·simp [execOp,e,go_sem,hc]
   ·exact Below.refl _ _
   ·exact Nat.le_refl _
   ·exact Nat.le_refl _
   ·exact rfl
   ·exact fun _ _ _ h=>absurd h (by decide)
  ·obtain rfl:=Option.some.inj ho
   obtain ⟨_,_,e2⟩:=hdeps ⟨12,.data⟩ (by simp) (by rfl) _ 15 rfl rfl
   have e2':a'.eval (.tmp 15)=.slice ga gn gc:=e2
   refine stepGLC (f:=50) (args:=#[.slice ga gn gc]) (by simp [execOp,resolve,evTmp e2',Act.eval,Deferred.ofValue,invoke,go_sem]) ?_
   refine (implCopyInts ga gn gc gh w' (HIW.out.2.2.1.be hB hhW) (by have:=hB.size;omega) hsz.2.2.1).mono ?_
   rintro e w3 ⟨a1,c1,s,t,rfl,hb3,k1,k2,k3,k4⟩
   exact ⟨_,s,t,rfl,hb3,k1,k2,⟨k2,k4,a1,c1,rfl,k3⟩,fun _ _ _ h=>absurd h (by decide)⟩
  ·obtain rfl:=Option.some.inj ho
   have e1:=evTmp (hF.ev 1 (by kernel_rfl) rfl)
   refine stepGL (v:=.pointer (some ⟨w.heap.size,4,none⟩)) (s:=w'.heap.size) (t:=w'.heap.size) (w'':=w') ?_ ?_ ?_ ?_ ?_ ?_
   ·simp [execOp,e1,go_sem]
   ·exact Below.refl _ _
   ·exact Nat.le_refl _
   ·exact Nat.le_refl _
   ·exact rfl
   ·exact fun _ _ _ h=>absurd h (by decide)
  ·obtain rfl:=Option.some.inj ho
   obtain ⟨_,_,e'⟩:=hdeps ⟨14,.data⟩ (by simp) (by rfl) _ 17 rfl rfl
   have e:=evTmp (show a'.eval (.tmp 17)=.pointer (some ⟨w.heap.size,4,none⟩) from e')
   have hc:w'.cell? ⟨w.heap.size,4,none⟩=some (.slice pa pn pc):=by rw [(bcell hB).1 _ _ hb0];exact c4
   refine stepGL (v:=.slice pa pn pc) (s:=w'.heap.size) (t:=w'.heap.size) (w'':=w') ?_ ?_ ?_ ?_ ?_ ?_
   ·simp [execOp,e,go_sem,hc]
   ·exact Below.refl _ _
   ·exact Nat.le_refl _
   ·exact Nat.le_refl _
   ·exact rfl
   ·exact fun _ _ _ h=>absurd h (by decide)
  ·obtain rfl:=Option.some.inj ho
   obtain ⟨_,_,e2⟩:=hdeps ⟨15,.data⟩ (by simp) (by rfl) _ 18 rfl rfl
   have e2':a'.eval (.tmp 18)=.slice pa pn pc:=e2
   refine stepGLC (f:=50) (args:=#[.slice pa pn pc]) (by simp [execOp,resolve,evTmp e2',Act.eval,Deferred.ofValue,invoke,go_sem]) ?_
   refine (implCopyInts pa pn pc ps w' (HIW.out.2.2.2.be hB hhW) (by have:=hB.size;omega) hsz.2.2.2).mono ?_
   rintro e w3 ⟨a1,c1,s,t,rfl,hb3,k1,k2,k3,k4⟩
   exact ⟨_,s,t,rfl,hb3,k1,k2,⟨k2,k4,a1,c1,rfl,k3⟩,fun _ _ _ h=>absurd h (by decide)⟩
 ·intro a' w' s t hB hF hV hD hLL
  obtain ⟨⟨l⟩,df⟩:=a'
  obtain rfl:df=[]:=hF.1
  have hlen:l.length=21:=hF.2.1
  match l,hlen with
  | [u0,u1,u2,u3,u4,u5,u6,u7,u8,u9,u10,u11,u12,u13,u14,u15,u16,u17,u18,u19,u20],_ =>
   have e2:u2=.pointer (some ⟨w.heap.size+1,0,none⟩):=hF.at 2 (by kernel_rfl)
   obtain ⟨hs6,ht6,_,a6,c6,e9,r6⟩:=hV 6 _ 9 (by omega) rfl rfl
   obtain ⟨hs10,ht10,_,_,a10,c10,e13,r10⟩:=hV 10 _ 13 (by omega) rfl rfl
   obtain ⟨hs13,ht13,_,_,a13,c13,e16,r13⟩:=hV 13 _ 16 (by omega) rfl rfl
   obtain ⟨hs16,ht16,_,_,a16,c16,e19,r16⟩:=hV 16 _ 19 (by omega) rfl rfl
   have e10:u10=.agg #[.int .i64 ar,u9]:=hLL 7 (by omega) rfl
   replace e9:u9=.slice a6 n c6:=e9
   replace e13:u13=.slice a10 ln c10:=e13
   replace e16:u16=.slice a13 gn c13:=e16
   replace e19:u19=.slice a16 pn c16:=e19
   subst e9;subst e10;subst e13;subst e16;subst e19;subst e2
   have Q0:w'.cell? ⟨w.heap.size+1,0,none⟩=some (.int .i64 0):=by rw [(bcell hB).1 _ _ hb1];exact q0
   have F0:w'.frozen? ⟨w.heap.size+1,0,none⟩=false:=by rw [(bcell hB).2 _ _ hb1];exact f0
   have Q1:w'.cell? ⟨w.heap.size+1,1,none⟩=some (.slice none 0 0):=by rw [(bcell hB).1 _ _ hb1];exact q1
   have F1:w'.frozen? ⟨w.heap.size+1,1,none⟩=false:=by rw [(bcell hB).2 _ _ hb1];exact f1
   have Q2:w'.cell? ⟨w.heap.size+1,2,none⟩=some (.slice none 0 0):=by rw [(bcell hB).1 _ _ hb1];exact q2
   have F2:w'.frozen? ⟨w.heap.size+1,2,none⟩=false:=by rw [(bcell hB).2 _ _ hb1];exact f2
   have Q3:w'.cell? ⟨w.heap.size+1,3,none⟩=some (.slice none 0 0):=by rw [(bcell hB).1 _ _ hb1];exact q3
   have F3:w'.frozen? ⟨w.heap.size+1,3,none⟩=false:=by rw [(bcell hB).2 _ _ hb1];exact f3
   have Q4:w'.cell? ⟨w.heap.size+1,4,none⟩=some (.slice none 0 0):=by rw [(bcell hB).1 _ _ hb1];exact q4
   have F4:w'.frozen? ⟨w.heap.size+1,4,none⟩=false:=by rw [(bcell hB).2 _ _ hb1];exact f4
   have HD:=hid (And.intro (hD 6 10 (by omega) (by omega) (by omega)) (And.intro (hD 6 13 (by omega) (by omega) (by omega)) (And.intro (hD 6 16 (by omega) (by omega) (by omega)) (And.intro (hD 10 13 (by omega) (by omega) (by omega)) (And.intro (hD 10 16 (by omega) (by omega) (by omega)) (hD 13 16 (by omega) (by omega) (by omega)))))))
   have HR:=hid (And.intro r6 (And.intro r10 (And.intro r13 (And.intro r16 (And.intro (And.intro hs6 ht6) (And.intro (And.intro hs10 ht10) (And.intro (And.intro hs13 ht13) (And.intro hs16 ht16))))))))
   have HBB:=hid hB
   clear hV hD hF hLL r6 r10 r13 r16 hs6 ht6 hs10 ht10 hs13 ht13 hs16 ht16 hB q0 f0 q1 f1 q2 f2 q3 f3 q4 f4
   change wpList _ _ _ [_,_] _ _
   go_wp2
   have hzz:=HBB.out.size
   refine bodyPost_ret (v:=iterV ar a6 n c6 a10 ln c10 a13 gn c13 a16 pn c16) (by simp [results,Try.results27,go_sem,Q0,Q1,Q2,Q3,Q4]) rfl ⟨_,_,_,_,_,_,_,_,_,_,_,_,rfl,?_,?_⟩
   ·have h1:IterX (w.heap.size+2) w'.heap.size w' ar a6 n c6 rows a10 ln c10 lw a13 gn c13 gh a16 pn c16 ps:=⟨HAR.out,_,_,_,_,_,_,_,_,HR.out.1,HR.out.2.1,HR.out.2.2.1,HR.out.2.2.2.1,by have h:=HD.out;have h2:=HR.out.2.2.2.2;have h3:=HZ.out;unfold Apart4;omega⟩
    refine hgIterX (hi:=w'.heap.size) (wdIterX (lo:=w.heap.size+2) (kpIterX h1 ?_) (by omega)) (by simp only [sz_set];exact Nat.le_refl _)
    exact Keeps.sc (Keeps.sc (Keeps.sc (Keeps.sc (Keeps.sc (Keeps.refl _ _ _) (.inl (by omega)) _) (.inl (by omega)) _) (.inl (by omega)) _) (.inl (by omega)) _) (.inl (by omega)) _
   ·have hq:=HBW.out.trans (HBB.out.mono (by omega));exact (by repeat (first | with_reducible assumption | with_reducible exact Below.refl _ _ | with_reducible refine below_drewN ?_ _ | with_reducible refine below_drew1 ?_ | with_reducible refine Below.al ?_ (by first | with_reducible exact Nat.le_refl _ | omega | (simp;done) | (simp;omega) | exact Nat.le_refl _) _ | with_reducible refine Below.setCell ?_ (by first | with_reducible exact Nat.le_refl _ | omega | (simp;done) | (simp;omega) | exact Nat.le_refl _) _ | assumption | exact Below.refl _ _ | refine below_drewN ?_ _ | refine below_drew1 ?_ | refine Below.al ?_ (by first | with_reducible exact Nat.le_refl _ | omega | (simp;done) | (simp;omega) | exact Nat.le_refl _) _ | refine Below.setCell ?_ (by first | with_reducible exact Nat.le_refl _ | omega | (simp;done) | (simp;omega) | exact Nat.le_refl _) _))
theorem implCopyIt {fz:Bool} {lo hi:Nat} (ar:Int) (a:Option Addr) (n c:Nat) (rows:List (List Int)) (la:Option Addr) (ln lc:Nat) (lw:List Int) (ga:Option Addr) (gn gc:Nat) (gh:List Int) (pa:Option Addr) (pn pc:Nat) (ps:List Int) (w:World) (hI:IterA fz lo hi w ar a n c rows la ln lc lw ga gn gc gh pa pn pc ps) (hh:hi≤w.heap.size) (hs:szIter rows lw gh ps≤1048576) :
 Calls Try.prog 27 #[iterV ar a n c la ln lc ga gn gc pa pn pc] w (GvIterS w ar rows lw gh ps):=(implCopyItX ar a n c rows la ln lc lw ga gn gc gh pa pn pc ps w hI hh hs).mono fun _ _ h=>h.s
end Go.Proofs.Ytfobmfngbfbfdaa
namespace Go.Proofs.Ytfobmfngbfbfdaa
set_option linter.unusedSimpArgs false
set_option linter.unusedVariables false
open Go.RowKit
section
variable {P:Program} {ops:Array Oper} {Q:Exit→Act→World→Prop}
def Hd (ops:Array Oper) (T:List Nat) (i:Nat):Prop:=i<ops.size∧T.contains i=false
instance (ops:Array Oper) (T:List Nat) (i:Nat):Decidable (Hd ops T i):=by unfold Hd;infer_instance
structure GrowTChk (ops:Array Oper) (T:List Nat) (N:Nat):Prop where
 pos:∃ i,Hd ops T i
 back:∀ i o,ops[i]? = some o→∀ e∈o.after,Region.binds .any e=true→e.on<i
 hd:∀ i o,Hd ops T i→ops[i]? = some o→∀ e∈o.after,Region.binds .any e=true→Hd ops T e.on
 guard:∀ i o,Hd ops T i→ops[i]? = some o→o.guard=none
 dst:∀ i o,Hd ops T i→ops[i]? = some o→∃ t,o.dst=some t∧t<N
 apart:∀ i j o o' t,Hd ops T i→Hd ops T j→i ≠ j→ops[i]? = some o→ops[j]? = some o'→o.dst=some t→o'.dst ≠ some t
 mem:∀ i,i<ops.size→¬ Hd ops T i→∃ p:Nat,T[p]? = some i
 lt:∀ m i:Nat,T[m]? = some i→i<ops.size
 tail:∀ p i:Nat,T[p]? = some i→∀ j,Hd ops T j→reachF ops ops.size i j=true
 tail2:∀ p q i j:Nat,T[p]? = some i→T[q]? = some j→q<p→j<i∧reachF ops ops.size i j=true
def GrowFrT (ops:Array Oper) (T:List Nat) (a a':Act):Prop:=a'.defers=a.defers∧a'.tmps.size=a.tmps.size∧∀ t,(∀ i o,Hd ops T i→ops[i]? = some o→o.dst ≠ some t)→a'.tmps.getD t undef=a.tmps.getD t undef
def notDstTB (ops:Array Oper) (T:List Nat) (t:Nat):Bool:=(List.range ops.size).all fun i=>T.contains i || match ops[i]? with | some o=>decide (o.dst ≠ some t) | none=>true
theorem GrowFrT.at {T:List Nat} {a a':Act} (h:GrowFrT ops T a a') (t:Nat) (hb:notDstTB ops T t=true):a'.tmps.getD t undef=a.tmps.getD t undef:=by
 refine h.2.2 t fun i o hi ho=>?_
 simp only [notDstTB,List.all_eq_true,List.mem_range] at hb
 have:=hb i hi.1
 rw [hi.2,ho] at this
 simpa using this
end
end Go.Proofs.Ytfobmfngbfbfdaa
namespace Go.Proofs.Ytfobmfngbfbfdaa
set_option linter.unusedSimpArgs false
set_option linter.unusedVariables false
open Go.RowKit
section
variable {P:Program} {ops:Array Oper} {Q:Exit→Act→World→Prop}
def midB (ops:Array Oper) (m z:Nat) (U:List Nat) (N:Nat):Bool :=
 decide (m<ops.size) && decide (z<ops.size) && decide (m ≠ z) && !U.contains m && !U.contains z &&
 (List.range ops.size).all (fun i=>match ops[i]? with
  | some o=>o.after.toList.all (fun e=>!Region.binds .any e || (decide (e.on<i) && ((m :: z :: U).contains i || !(m :: z :: U).contains e.on))) && o.guard.isNone &&
   (decide (i=z) || (match o.dst with | some t=>decide (t<N) && (List.range i).all (fun j=>decide (j=z) || match ops[j]? with | some o'=>decide (o'.dst ≠ some t) | none=>true) | none=>false))
  | none=>true) &&
 (List.range ops.size).all (fun j=>((m :: z :: U).contains j || reachF ops ops.size m j) && (decide (j=z) || reachF ops ops.size z j))
structure MidChk (ops:Array Oper) (m z:Nat) (U:List Nat) (N:Nat):Prop where
 mlt:m<ops.size
 zlt:z<ops.size
 mz:m ≠ z
 mU:¬ m∈U
 zU:¬ z∈U
 back:∀ i o,ops[i]? = some o→∀ e∈o.after,Region.binds .any e=true→e.on<i
 hd:∀ i o,Hd ops (m :: z :: U) i→ops[i]? = some o→∀ e∈o.after,Region.binds .any e=true→Hd ops (m :: z :: U) e.on
 guard:∀ (i:Nat) (o:Oper),ops[i]? = some o→o.guard=none
 dst:∀ i o,i ≠ z→ops[i]? = some o→∃ t,o.dst=some t∧t<N
 apart:∀ i j o o' t,i ≠ z→j ≠ z→i ≠ j→ops[i]? = some o→ops[j]? = some o'→o.dst=some t→o'.dst ≠ some t
 reachm:∀ j,Hd ops (m :: z :: U) j→reachF ops ops.size m j=true
 reachz:∀ j,j<ops.size→j ≠ z→reachF ops ops.size z j=true
theorem midChk {m z:Nat} {U:List Nat} {N:Nat} (h:midB ops m z U N=true):MidChk ops m z U N:=by
 unfold midB at h
 simp only [Bool.and_eq_true] at h
 obtain ⟨⟨⟨⟨⟨⟨h1,h2⟩,h3⟩,h4⟩,h5⟩,h6⟩,h7⟩:=h
 simp only [List.all_eq_true,List.mem_range] at h6
 simp only [List.all_eq_true,List.mem_range,Bool.and_eq_true,decide_eq_true_eq,Bool.or_eq_true] at h7
 have edge:∀ i o,ops[i]? = some o→∀ e∈o.after,Region.binds .any e=true→e.on<i∧((m :: z :: U).contains i=true∨(m :: z :: U).contains e.on=false):=by
  intro i o ho e he hb
  have:=h6 i (Array.getElem?_eq_some_iff.1 ho).1
  rw [ho] at this
  simp only [Bool.and_eq_true] at this
  have h4:=List.all_eq_true.1 this.1.1 e (by simpa using he)
  rw [hb] at h4
  simp only [Bool.not_true,Bool.false_or,Bool.and_eq_true,decide_eq_true_eq,Bool.or_eq_true,Bool.not_eq_true'] at h4
  exact h4
 have own:∀ i o,i ≠ z→ops[i]? = some o→∃ t,o.dst=some t∧t<N∧∀ j o',j<i→j ≠ z→ops[j]? = some o'→o'.dst ≠ some t:=by
  intro i o hi ho
  have:=h6 i (Array.getElem?_eq_some_iff.1 ho).1
  rw [ho] at this
  simp only [Bool.and_eq_true,Bool.or_eq_true,decide_eq_true_eq] at this
  have h4:=this.2.resolve_left hi
  cases hd:o.dst with
  | none=>rw [hd] at h4;cases h4
  | some t =>
   rw [hd] at h4
   simp only [Bool.and_eq_true,decide_eq_true_eq,List.all_eq_true,List.mem_range,Bool.or_eq_true] at h4
   refine ⟨t,rfl,h4.1,fun j o' hj hh ho'=>?_⟩
   have h6:=(h4.2 j hj).resolve_left hh
   rw [ho'] at h6
   simpa using h6
 refine ⟨by simpa using h1,by simpa using h2,by simpa using h3,by simpa using h4,by simpa using h5,fun i o ho e he hb=>(edge i o ho e he hb).1,fun i o hi ho e he hb=>?_,fun i o ho=>?_,fun i o hi ho=>?_,fun i j o o' t hi hj hij ho ho' hd=>?_,fun j hj=>?_,fun j hj hjz=>(h7 j hj).2.resolve_left hjz⟩
 ·obtain ⟨q1,q2⟩:=edge i o ho e he hb
  exact ⟨Nat.lt_trans q1 hi.1,q2.resolve_left (by rw [hi.2];simp)⟩
 ·have:=h6 i (Array.getElem?_eq_some_iff.1 ho).1
  rw [ho] at this
  simp only [Bool.and_eq_true] at this
  simpa using this.1.2
 ·obtain ⟨t,q1,q2,_⟩:=own i o hi ho
  exact ⟨t,q1,q2⟩
 ·rcases Nat.lt_or_gt_of_ne hij with h | h
  ·obtain ⟨t',q1,_,q3⟩:=own j o' hj ho'
   intro hd'
   rw [hd'] at q1;cases q1
   exact q3 i o h hi ho hd
  ·obtain ⟨t',q1,_,q3⟩:=own i o hi ho
   rw [hd] at q1;cases q1
   exact q3 j o' h hj ho'
 ·exact (h7 j hj.1).1.resolve_left (by rw [hj.2];simp)
def FrA (ops:Array Oper) (a a':Act):Prop:=a'.defers=a.defers∧a'.tmps.size=a.tmps.size∧∀ t,(∀ (i:Nat) (o:Oper),ops[i]? = some o→o.dst ≠ some t)→a'.tmps.getD t undef=a.tmps.getD t undef
theorem FrA.put {a a':Act} {i t:Nat} {o:Oper} (h:FrA ops a a') (ho:ops[i]? = some o) (ht:o.dst=some t) (v:Value):FrA ops a (a'.put (some t) v) :=
 ⟨h.1,by simp [Act.put,h.2.1],fun t' ht'=>by rw [getD_put_other (by rintro rfl;exact ht' i o ho ht)];exact h.2.2 t' ht'⟩
def notDstA (ops:Array Oper) (t:Nat):Bool:=(List.range ops.size).all fun i=>match ops[i]? with | some o=>decide (o.dst ≠ some t) | none=>true
theorem FrA.at {a a':Act} (h:FrA ops a a') (t:Nat) (hb:notDstA ops t=true):a'.tmps.getD t undef=a.tmps.getD t undef:=by
 refine h.2.2 t fun i o ho=>?_
 simp only [notDstA,List.all_eq_true,List.mem_range] at hb
 have:=hb i (Array.getElem?_eq_some_iff.1 ho).1
 rw [ho] at this
 simpa using this
theorem FrA.ev {a a':Act} (h:FrA ops a a') (t:Nat) (hb:notDstA ops t=true) {v:Value} (hv:a.tmps.getD t undef=v):a'.eval (.tmp t)=v:=by
 rw [← hv];exact h.at t hb
theorem wp_region_mid {id:Nat} {a:Act} {w:World} (m z:Nat) (U:List Nat) (N:Nat) (hm:P.follows .mixedOrders=true) (hB:midB ops m z U N=true) (hN:a.tmps.size=N)
 (V:Nat→Value→Nat→Nat→World→Prop) (u:Nat→Value) (M:Value→World→Prop)
 (stab:∀ i v s t w' w'',V i v s t w'→Below w'.heap.size w' w''→V i v s t w'')
 (hs:∀ i o,Hd ops (m :: z :: U) i→ops[i]? = some o→∀ a' w',Below w.heap.size w w'→FrA ops a a' →
  (∀ e∈o.after,Region.binds .any e=true→∀ o' d,ops[e.on]? = some o'→o'.dst=some d→∃ s t,w.heap.size≤s∧t≤w'.heap.size∧V e.on (a'.tmps.getD d undef) s t w')→o.wp P a' w' (fun a'' w''=>∃ v s t,a''=a'.put o.dst v∧Below w'.heap.size w' w''∧w'.heap.size≤s∧t≤w''.heap.size∧V i v s t w'') Q)
 (hu:∀ i o,i∈U→ops[i]? = some o→∀ a' w',FrA ops a a'→o.wp P a' w' (fun a'' w''=>a''=a'.put o.dst (u i)∧w''=w') Q)
 (hmid:∀ o a' w',ops[m]? = some o→Below w.heap.size w w'→FrA ops a a'→(∀ i o d,Hd ops (m :: z :: U) i→ops[i]? = some o→o.dst=some d→∃ s t,w.heap.size≤s∧t≤w'.heap.size∧V i (a'.tmps.getD d undef) s t w') →
  o.wp P a' w' (fun a'' w''=>∃ v,a''=a'.put o.dst v∧M v w'') Q)
 (hz:∀ o om dm a' w' v,ops[z]? = some o→ops[m]? = some om→om.dst=some dm→FrA ops a a'→a'.tmps.getD dm undef=v→(∀ i o d,i∈U→ops[i]? = some o→o.dst=some d→a'.tmps.getD d undef=u i)→M v w' →
  o.wp P a' w' (Q .normal) Q) :
 (Code.region id ops true).wp P Q a w:=by
 have K:=midChk hB
 have wanted:∀ (i:Nat) (o:Oper) a',ops[i]? = some o→Region.wanted o (yielded ops a')=true:=fun i o a' ho=>by simp [Region.wanted,K.guard i o ho]
 have hneq:∀ i,Hd ops (m :: z :: U) i→i ≠ m∧i ≠ z∧¬ i∈U:=fun i hi=>by have:=hi.2;simpa using this
 let GU:(Nat→Bool)→Act→Prop:=fun d a'=>∀ i o dd,i∈U→d i=true→ops[i]? = some o→o.dst=some dd→a'.tmps.getD dd undef=u i
 let GH:(Nat→Bool)→Act→World→Prop:=fun d a' w'=>∀ i o dd,Hd ops (m :: z :: U) i→d i=true→ops[i]? = some o→o.dst=some dd→∃ s t,w.heap.size≤s∧t≤w'.heap.size∧V i (a'.tmps.getD dd undef) s t w'
 let GM:Act→World→Prop:=fun a' w'=>∀ o dd,ops[m]? = some o→o.dst=some dd→M (a'.tmps.getD dd undef) w'
 have toU:∀ d a' (i:Nat) (o:Oper) ti v,ops[i]? = some o→o.dst=some ti→ti<a'.tmps.size→i ≠ z→(i∈U→v=u i)→GU d a'→GU (fun j=>if j=i then true else d j) (a'.put (some ti) v):=by
  intro d a' i o ti v ho hti hlt hiz hv hg k o' dd hk hdk ho' ht
  by_cases e:k=i
  ·subst e
   rw [ho] at ho';cases ho'
   rw [hti] at ht;cases ht
   rw [getD_put_same hlt];exact hv hk
  ·simp only [if_neg e] at hdk
   rw [getD_put_other (by rintro rfl;exact K.apart i k o o' ti hiz (fun h=>K.zU (h ▸ hk)) (fun h=>e h.symm) ho ho' hti ht)]
   exact hg k o' dd hk hdk ho' ht
 refine wp_region_inv hm (fun d a' w'=>(d m=false∧d z=false∧Below w.heap.size w w'∧FrA ops a a'∧GH d a' w'∧GU d a')∨(d m=true∧d z=false∧FrA ops a a'∧GM a' w'∧GU d a'∧∀ i,Hd ops (m :: z :: U) i→d i=true)∨(d z=true∧Q .normal a' w')) K.back ?_ ?_ ?_
 ·exact .inl ⟨rfl,rfl,⟨rfl,rfl,rfl,Nat.le_refl _,fun _ _=>rfl⟩,⟨rfl,rfl,fun _ _=>rfl⟩,fun _ _ _ _ h=>(by cases h),fun _ _ _ _ h=>(by cases h)⟩
 ·intro d a' w' i o ho hd hdeps hcl hbig hI
  have hi:=(Array.getElem?_eq_some_iff.1 ho).1
  have hreach:∀ j,reachF ops ops.size i j=true→d j=true:=fun j h=>reachF_done hcl _ i j (fun o' ho'=>by rw [ho] at ho';cases ho';exact hdeps) h
  have hzf:d z=false:=by
   rcases hI with h | h | h
   ·exact h.2.1
   ·exact h.2.1
   ·by_cases e:i=z
    ·subst e;rw [hd] at h;cases h.1
    ·have h2:=reachF_done hcl ops.size z i (fun o' ho' e' he' hb=>hcl z o' ho' h.1 e' he' hb) (K.reachz i hi e)
     rw [hd] at h2;cases h2
  unfold wpOp
  rw [ho]
  dsimp only
  rw [if_pos (wanted i o _ ho)]
  by_cases hiz:i=z
  ·subst hiz
   have hmt:d m=true:=hreach m (K.reachz m K.mlt K.mz)
   rcases hI with h | h | h
   ·rw [hmt] at h;cases h.1
   ·obtain ⟨_,_,hF,hM,hU,_⟩:=h
    obtain ⟨dm,hdm,_⟩:=K.dst m (ops[m]'(K.mlt)) K.mz (by simp [K.mlt])
    refine .inl (Oper.wp_mono (fun a'' w'' h=>?_) (hz o (ops[m]'(K.mlt)) dm a' w' _ ho (by simp [K.mlt]) hdm hF rfl (fun k o' dd hk ho' ht=>hU k o' dd hk (hreach k (K.reachz k (Array.getElem?_eq_some_iff.1 ho').1 (fun e=>K.zU (e ▸ hk)))) ho' ht) (hM _ _ (by simp [K.mlt]) hdm)))
    exact .inr (.inr ⟨by simp,h⟩)
   ·rw [hzf] at h;cases h.1
  ·obtain ⟨ti,hti,htN⟩:=K.dst i o hiz ho
   have hzf':(if z=i then true else d z)=false:=by rw [if_neg (fun e=>hiz e.symm)];exact hzf
   by_cases him:i=m
   ·subst him
    rcases hI with h | h | h
    ·obtain ⟨_,_,hC,hF,hV,hU⟩:=h
     refine .inl (Oper.wp_mono ?_ (hmid o a' w' ho hC hF (fun k o' dd hk ho' ht=>hV k o' dd hk (hreach k (K.reachm k hk)) ho' ht)))
     rintro a'' w'' ⟨v,rfl,hM⟩
     rw [hti]
     have hlt:ti<a'.tmps.size:=by rw [hF.2.1,hN];exact htN
     refine .inr (.inl ⟨by simp,hzf',hF.put ho hti v,fun o' dd ho' ht=>?_,toU d a' i o ti v ho hti hlt hiz (fun h=>absurd h K.mU) hU,fun k hk=>?_⟩)
     ·rw [ho] at ho';cases ho'
      rw [hti] at ht;cases ht
      rw [getD_put_same hlt];exact hM
     ·rw [if_neg (hneq k hk).1];exact hreach k (K.reachm k hk)
    ·rw [hd] at h;cases h.1
    ·rw [hzf] at h;cases h.1
   ·have hmi:(if m=i then true else d m)=d m:=if_neg (fun e=>him e.symm)
    by_cases hiU:i∈U
    ·rcases hI with h | h | h
     ·obtain ⟨hmf,_,hC,hF,hV,hU⟩:=h
      have hlt:ti<a'.tmps.size:=by rw [hF.2.1,hN];exact htN
      refine .inl (Oper.wp_mono ?_ (hu i o hiU ho a' w' hF))
      rintro a'' w'' ⟨rfl,rfl⟩
      rw [hti]
      refine .inl ⟨by rw [hmi];exact hmf,hzf',hC,hF.put ho hti _,fun k o' dd hk hdk ho' ht=>?_,toU d a' i o ti _ ho hti hlt hiz (fun _=>rfl) hU⟩
      have hki:k ≠ i:=fun e=>(hneq k hk).2.2 (e ▸ hiU)
      simp only [if_neg hki] at hdk
      rw [getD_put_other (by rintro rfl;exact K.apart i k o o' ti hiz (hneq k hk).2.1 (fun h=>hki h.symm) ho ho' hti ht)]
      exact hV k o' dd hk hdk ho' ht
     ·obtain ⟨hmt,_,hF,hM,hU,hall⟩:=h
      have hlt:ti<a'.tmps.size:=by rw [hF.2.1,hN];exact htN
      refine .inl (Oper.wp_mono ?_ (hu i o hiU ho a' w' hF))
      rintro a'' w'' ⟨rfl,rfl⟩
      rw [hti]
      refine .inr (.inl ⟨by rw [hmi];exact hmt,hzf',hF.put ho hti _,fun o' dd ho' ht=>?_,toU d a' i o ti _ ho hti hlt hiz (fun _=>rfl) hU,fun k hk=>?_⟩)
      ·rw [getD_put_other (by rintro rfl;exact K.apart i m o o' ti hiz K.mz him ho ho' hti ht)]
       exact hM o' dd ho' ht
      ·by_cases e:k=i
       ·rw [if_pos e]
       ·rw [if_neg e];exact hall k hk
     ·rw [hzf] at h;cases h.1
    ·have hin:Hd ops (m :: z :: U) i:=⟨hi,by simp [him,hiz,hiU]⟩
     rcases hI with h | h | h
     ·obtain ⟨hmf,_,hC,hF,hV,hU⟩:=h
      have hlt:ti<a'.tmps.size:=by rw [hF.2.1,hN];exact htN
      refine .inl (Oper.wp_mono ?_ (hs i o hin ho a' w' hC hF (fun e he' hb o' dd ho' ht=>hV e.on o' dd (K.hd i o hin ho e he' hb) (hdeps e he' hb) ho' ht)))
      rintro a'' w'' ⟨v,s0,t0,rfl,hR,hs0,ht0,hVi⟩
      rw [hti]
      refine .inl ⟨by rw [hmi];exact hmf,hzf',hC.trans (hR.mono hC.size),hF.put ho hti _,fun k o' dd hk hdk ho' ht=>?_,toU d a' i o ti _ ho hti hlt hiz (fun h=>absurd h hiU) hU⟩
      by_cases e:k=i
      ·subst e
       rw [ho] at ho';cases ho'
       rw [hti] at ht;cases ht
       rw [getD_put_same hlt]
       exact ⟨s0,t0,Nat.le_trans hC.size hs0,ht0,hVi⟩
      ·simp only [if_neg e] at hdk
       rw [getD_put_other (by rintro rfl;exact K.apart i k o o' ti hiz (hneq k hk).2.1 (fun h=>e h.symm) ho ho' hti ht)]
       obtain ⟨s,t,q1,q2,q3⟩:=hV k o' dd hk hdk ho' ht
       exact ⟨s,t,q1,Nat.le_trans q2 hR.size,stab _ _ _ _ _ _ q3 hR⟩
     ·have:=h.2.2.2.2.2 i hin
      rw [hd] at this;cases this
     ·rw [hzf] at h;cases h.1
 ·intro d a' w' hall hbig hI
  rcases hI with h | h | h
  ·rw [hall z K.zlt] at h;cases h.2.1
  ·rw [hall z K.zlt] at h;cases h.2.1
  ·exact h.2
end
end Go.Proofs.Ytfobmfngbfbfdaa
