/- Lemmas for the proof of FnCoverDuality, part 16 of 25: no condition of their own. -/
import Derived.Test.YtkohkoiegmcghaaDoorJ6
import Derived.Test.YtkohkoiegmcghaaDoorJ11
import Derived.Test.YtkohkoiegmcghaaDoorJ15
import Derived.Test.YtkohkoiegmcghaaDoorJ7
namespace Go.Proofs.YtkohkoiegmcghaaDoor
set_option linter.unusedSimpArgs false
set_option linter.unusedVariables false
attribute [local go_sem ↓] reduceIte
attribute [local go_sem] Nat.reduceEqDiff Nat.reduceLT Nat.reduceAdd Nat.reduceLeDiff Nat.reduceMul Nat.reduceBEq Nat.reduceSub reduceCtorEq Int.reduceLE Int.reduceNeg Int.reduceLT
open Go.RowKit
def isByt (y:DV):Prop:=∃ l:List Int,y=.sl 1 (l.map .byte)
def isNatD (y:DV):Prop:=∃ n:Int,0≤n∧y=.int n
def isIntP (y:DV):Prop:=∃ n:Int,y=.int n
def curL:List AV:=[.any isByt,.any isNatD,.any isIntP]
@[go_sem] theorem cur_scr (fb fo:Nat→Bool):scrubs fb fo curL=curL:=rfl
@[go_sem] theorem cur_scr' (fb fo:Nat→Bool):List.map (scrub fb fo) curL=curL:=rfl
@[go_sem] theorem cur_ren (ns:List Nat) (d:Nat):renAs ns d curL=curL:=rfl
@[go_sem] theorem cur_ent:entAs curL=curL:=rfl
@[go_sem] theorem cur_out (nl:List Nat) (g:Nat):outAs nl g curL=curL:=rfl
@[go_sem] theorem cur_frz (o k:Nat) (es:List DV):frzs o k es curL=curL:=rfl
def curC (l:List Int) (i h:Int):List AV:=[.d (.sl 1 (l.map .byte)),.d (.int i),.d (.int h)]
theorem cur_le {l:List Int} {i h:Int} (hi:0≤i):ALes (curC l i h) curL :=
 .cons (.any ⟨l,rfl⟩ (fun m e=>(by cases e))) (.cons (.any ⟨i,hi,rfl⟩ (fun m e=>(by cases e))) (.cons (.any ⟨h,rfl⟩ (fun m e=>(by cases e))) .nil))
theorem cur_okt (o:Nat):∀ x∈curL,OKT o x:=by
 intro x hx
 simp only [curL,List.mem_cons,List.not_mem_nil,or_false] at hx
 rcases hx with rfl | rfl | rfl
 ·rintro y ⟨l,rfl⟩;exact .inr ⟨l,rfl⟩
 ·rintro y ⟨n,_,rfl⟩;exact .inl rfl
 ·rintro y ⟨n,rfl⟩;exact .inl rfl
theorem afn_cur {f:FuncId} {args:List AV} {R:AV→List (List AV)→Prop} (h:∀ (l:List Int) (i h:Int),0≤i→l.length≤9223372036854775807→AFn f args [curC l i h] R):AFn f args [curL] R:=by
 refine ⟨(h [] 0 0 (by omega) (by simp)).1,fun w G vs h1 h2 h3 h4=>?_⟩
 obtain ⟨g1,g2,us,g3,g4,g5⟩:=h3 0 curL rfl
 obtain ⟨u0,us,rfl,⟨x0,⟨l,rfl⟩,_,c0⟩,u1,us,rfl,⟨x1,⟨i,hi,rfl⟩,_,c1⟩,u2,us,rfl,⟨x2,⟨z,rfl⟩,_,c2⟩,rfl⟩:=g3
 have hl:l.length≤9223372036854775807:=by
  obtain ⟨a,n,c,vs,e1,e2,e3,e4⟩:=c0
  have:=e4.small
  simp only [List.length_map] at e2
  omega
 refine (h l i z hi hl).2 w G vs h1 h2 (fun j l' hj=>?_) h4
 cases j with
 | succ j=>simp at hj
 | zero =>
  simp only [List.getElem?_cons_zero,Option.some.injEq] at hj
  subst hj
  exact ⟨g1,g2,_,⟨u0,_,rfl,⟨_,c0,.inr ⟨fun m e=>(by cases e),rfl⟩⟩,u1,_,rfl,⟨_,c1,.inr ⟨fun m e=>(by cases e),rfl⟩⟩,u2,_,rfl,⟨_,c2,.inr ⟨fun m e=>(by cases e),rfl⟩⟩,rfl⟩,g4,g5⟩
theorem obOK_le {G:Gh} {w:World} {o:Nat} {l m:List AV} (h:ALes l m) (ho:ObOK G w o l):ObOK G w o m:=by
 obtain ⟨g1,g2,us,g3,g4,g5⟩:=ho
 exact ⟨g1,g2,us,h.cv g3,g4,g5⟩
theorem afn_weak1 {f:FuncId} {args:List AV} {os:List (List AV)} {R R':AV→List (List AV)→Prop} (h:AFn f args os R) (hR:∀ r os',R r os'→∃ r' l l',os'=[l]∧ALe r r'∧ALes l l'∧R' r' [l']):AFn f args os R':=by
 refine ⟨h.1,fun w G vs h1 h2 h3 h4=>(h.2 w G vs h1 h2 h3 h4).mono ?_⟩
 rintro e w' ⟨v,r,os',G',rfl,hp⟩
 obtain ⟨r',l,l',rfl,h5,h6,h7⟩:=hR r os' hp.post
 refine ⟨_,r',[l'],G',rfl,h7,h5.cv hp.res,hp.fr,hp.st,hp.le,fun i m hm=>?_,hp.adl,hp.adn,hp.d2,hp.cs,hp.lc,hp.bf,hp.d1,hp.d3,hp.uf⟩
 cases i with
 | succ i=>simp at hm
 | zero =>
  simp only [List.getElem?_cons_zero,Option.some.injEq] at hm
  subst hm
  exact obOK_le h6 (hp.ob 0 l rfl)
theorem end1 {ty:TypeId→Option TyI} {N:Nat} {s:AS} {rv:List ResultVar} {R:AV→List (List AV)→Prop} {e:Exit} (g:Nat) {xs:List AV} {r:AV} {l:List AV} (he:e=.normal∨e=.ret) (hx:finA ty N s rv=some xs) (hob:s.ob 1000000=some l) (h:ALe (outA [1000000] g (retA xs)) r) (hR:R r [outAs [1000000] g l]):EndA ty N 1 rv R e s :=
 ⟨he,[],g,xs,[outAs [1000000] g l],hx,by simp [lentN],by simp,by simp [lentN,obsOut,hob],r,by simpa [lentN] using h,hR⟩
theorem endN {ty:TypeId→Option TyI} {N:Nat} {s:AS} {rv:List ResultVar} {R:AV→List (List AV)→Prop} {e:Exit} (o:Nat) {xs:List AV} {r:AV} {l:List AV} (he:e=.normal∨e=.ret) (hx:finA ty N s rv=some xs) (hlt:o<1000000) (hob:s.ob o=some l) (h:ALe (outA [o] 0 (retA xs)) r) (hR:R r [outAs [o] 0 l]):EndA ty N 0 rv R e s :=
 ⟨he,[o],0,xs,[outAs [o] 0 l],hx,by simp [lentN],by simpa using hlt,by simp [lentN,obsOut,hob],r,by simpa [lentN] using h,hR⟩
theorem andI_255 (x:Int):0≤andI x 255∧andI x 255≤255:=by
 unfold andI
 have h1:(BitVec.ofInt 64 x &&& BitVec.ofInt 64 255).toNat≤255:=by
  rw [BitVec.toNat_and]
  exact Nat.le_trans Nat.and_le_right (by decide)
 rw [i64_wrap_id (by unfold I64;omega)]
 omega
theorem getDB {l:List Int} {i:Nat} {x:DV} (h:i<l.length):(l.map DV.byte).getD i x=.byte (ix l i):=by simp [List.getD,ix,h]
theorem l1ByteC (l:List Int) (i h:Int) (hi:0≤i) (hl:l.length≤9223372036854775807):AFn 54 [.ptr 0 0] [curC l i h] (fun r os=>∃ x i' h',(0≤x∧x≤255)∧0≤i'∧r=.d (.int x)∧os=[curC l i' h']):=by
 refine afn_of (rv:=[.tmp 2]) tyT_ok Tryd.func54 rfl (by decide +kernel) Tryd.ntmps54 rfl (by simp) ?_
 repeat' (first | refine sq ?_ | refine stp ?_ | refine blk_o (by decide) ?_ | (apply cb;(focus (simp (disch:=(first | omega | (simp;omega))) only [go_sem,w64,curC];try exact rfl));refine cok ?_) | (refine rgT ?_;intro K hK) | (refine dA ?_;intro K hK) | (with_reducible refine hK _ ?_;clear hK K) | (refine stq ?_;simp (disch:=(first | omega | (simp;omega))) only [go_sem,w64,curC]) | refine as1 ?_ | fail)
 generalize IntKind.i64.wrap (IntKind.i64.wrap (h*6364136223846793005)+1442695040888963407)=h'
 have hx:=andI_255 (xorI (shrI h' 33) (shrI h' 45))
 generalize andI (xorI (shrI h' 33) (shrI h' 45)) 255=x at hx
 refine awp_if (p:=i<(l.length:Nat)) (by simp (disch:=(first | omega | (simp;omega))) only [go_sem,w64]) ?_ ?_ <;> intro hc
 ·have hk:i.toNat<l.length:=by omega
  have hw:IntKind.i64.wrap (i+1)=i+1:=w64 (by omega)
  repeat' (first | refine sq ?_ | refine stp ?_ | refine blk_o (by decide) ?_ | (apply cb;(focus (simp (disch:=(first | omega | (simp;omega))) only [go_sem,w64,getDB,hw];try exact rfl));refine cok ?_) | (refine rgT ?_;intro K hK) | (refine dA ?_;intro K hK) | (with_reducible refine hK _ ?_;clear hK K) | (refine stq ?_;simp (disch:=(first | omega | (simp;omega))) only [go_sem,w64,getDB,hw]) | refine as1 ?_ | fail)
  have hy:=andI_255 (IntKind.i64.wrap (x+ix l i.toNat))
  refine end1 0 (.inr rfl) (by simp (disch:=(first | omega | (simp;omega))) only [go_sem,w64];rfl) (by simp (disch:=(first | omega | (simp;omega))) only [go_sem,w64];rfl) (r:=.d (.int (andI (IntKind.i64.wrap (x+ix l i.toNat)) 255))) (by simp (disch:=(first | omega | (simp;omega))) only [go_sem,w64];exact .refl _) ?_
  exact ⟨_,i+1,h',hy,by omega,rfl,rfl⟩
 ·repeat' (first | refine sq ?_ | refine stp ?_ | refine blk_o (by decide) ?_ | (apply cb;(focus (simp (disch:=(first | omega | (simp;omega))) only [go_sem,w64];try exact rfl));refine cok ?_) | (refine rgT ?_;intro K hK) | (refine dA ?_;intro K hK) | (with_reducible refine hK _ ?_;clear hK K) | (refine stq ?_;simp (disch:=(first | omega | (simp;omega))) only [go_sem,w64]) | refine as1 ?_ | fail)
  refine end1 0 (.inr rfl) (by simp (disch:=(first | omega | (simp;omega))) only [go_sem,w64];rfl) (by simp (disch:=(first | omega | (simp;omega))) only [go_sem,w64];rfl) (r:=.d (.int x)) (by simp (disch:=(first | omega | (simp;omega))) only [go_sem,w64];exact .refl _) ?_
  exact ⟨_,i,h',hx,hi,rfl,rfl⟩
theorem l1ByteA:AFn 54 [.ptr 0 0] [curL] (fun r os=>∃ x:Int,(0≤x∧x≤255)∧r=.d (.int x)∧os=[curL]):=by
 refine afn_cur (fun l i h hi hl=>afn_weak1 (l1ByteC l i h hi hl) ?_)
 rintro r os ⟨x,i',h',hx,hi',rfl,rfl⟩
 exact ⟨_,_,_,rfl,.refl _,cur_le hi',x,hx,rfl,rfl⟩
theorem l1BelowA (n:Int):AFn 25 [.ptr 0 0,.d (.int n)] [curL] (fun r os=>∃ x:Int,(0≤x∧(n≤0→x=0)∧(0<n→x<n))∧r=.d (.int x)∧os=[curL]):=by
 refine afn_of (rv:=[.tmp 4]) tyT_ok Tryd.func25 rfl (by decide +kernel) Tryd.ntmps25 rfl (by simp) ?_
 repeat' (first | refine sq ?_ | refine stp ?_ | refine blk_o (by decide) ?_ | (apply cb;(focus (simp (disch:=(first | omega | (simp;omega))) only [go_sem,w64];try exact rfl));refine cok ?_) | (refine rgT ?_;intro K hK) | (refine dA ?_;intro K hK) | (with_reducible refine hK _ ?_;clear hK K) | (refine stq ?_;simp (disch:=(first | omega | (simp;omega))) only [go_sem,w64]) | refine as1 ?_ | fail)
 refine awp_if (p:=n≤0) (by simp (disch:=(first | omega | (simp;omega))) only [go_sem,w64]) ?_ ?_ <;> intro hc
 ·repeat' (first | refine sq ?_ | refine stp ?_ | refine blk_o (by decide) ?_ | (apply cb;(focus (simp (disch:=(first | omega | (simp;omega))) only [go_sem,w64];try exact rfl));refine cok ?_) | (refine rgT ?_;intro K hK) | (refine dA ?_;intro K hK) | (with_reducible refine hK _ ?_;clear hK K) | (refine stq ?_;simp (disch:=(first | omega | (simp;omega))) only [go_sem,w64]) | refine as1 ?_ | fail)
  refine end1 0 (.inr rfl) (by simp (disch:=(first | omega | (simp;omega))) only [go_sem,w64];rfl) (by simp (disch:=(first | omega | (simp;omega))) only [go_sem,w64];rfl) (r:=.d (.int 0)) (by simp (disch:=(first | omega | (simp;omega))) only [go_sem,w64];exact .refl _) ?_
  exact ⟨0,⟨by omega,fun _=>rfl,fun h=>h⟩,rfl,rfl⟩
 ·repeat' (first | refine sq ?_ | refine stp ?_ | refine blk_o (by decide) ?_ | (apply cb;(focus (simp (disch:=(first | omega | (simp;omega))) only [go_sem,w64];try exact rfl));refine cok ?_) | (refine rgT ?_;intro K hK) | (refine dA ?_;intro K hK) | (with_reducible refine hK _ ?_;clear hK K) | (refine stq ?_;simp (disch:=(first | omega | (simp;omega))) only [go_sem,w64]) | refine as1 ?_ | fail)
  refine awp_if (p:=n≤256) (by simp (disch:=(first | omega | (simp;omega))) only [go_sem,w64]) ?_ ?_ <;> intro hc2
  ·have hn0:n ≠ 0:=by omega
   repeat' (first | refine sq ?_ | refine stp ?_ | refine blk_o (by decide) ?_ | (apply cb;(focus (simp (disch:=(first | omega | (simp;omega))) only [go_sem,w64];try exact rfl));refine cok ?_) | (refine rgT ?_;intro K hK) | (refine dA ?_;intro K hK) | (with_reducible refine hK _ ?_;clear hK K) | (refine stq ?_;simp (disch:=(first | omega | (simp;omega))) only [go_sem,w64]) | refine as1 ?_ | fail)
   (refine callL 1000000 (l1ByteA) ?_)
   rintro r os ⟨x,hx,rfl,rfl⟩
   refine ⟨by decide,?_⟩
   repeat' (first | refine sq ?_ | refine stp ?_ | refine blk_o (by decide) ?_ | (apply cb;(focus (simp (disch:=(first | omega | (simp;omega))) only [go_sem,w64,hn0];try exact rfl));refine cok ?_) | (refine rgT ?_;intro K hK) | (refine dA ?_;intro K hK) | (with_reducible refine hK _ ?_;clear hK K) | (refine stq ?_;simp (disch:=(first | omega | (simp;omega))) only [go_sem,w64,hn0]) | refine as1 ?_ | fail)
   refine end1 0 (.inr rfl) (by simp (disch:=(first | omega | (simp;omega))) only [go_sem,w64];rfl) (by simp (disch:=(first | omega | (simp;omega))) only [go_sem,w64];rfl) (r:=.d (.int (x.tmod n))) (by simp (disch:=(first | omega | (simp;omega))) only [go_sem,w64];exact .refl _) ?_
   have e:x.tmod n=x % n:=Int.tmod_eq_emod_of_nonneg hx.1
   have e1:=Int.emod_nonneg x hn0
   have e2:=Int.emod_lt_of_pos x (show 0<n by omega)
   exact ⟨_,⟨by omega,fun h=>by omega,fun _=>by omega⟩,rfl,rfl⟩
  ·have hn0:n ≠ 0:=by omega
   repeat' (first | refine sq ?_ | refine stp ?_ | refine blk_o (by decide) ?_ | (apply cb;(focus (simp (disch:=(first | omega | (simp;omega))) only [go_sem,w64];try exact rfl));refine cok ?_) | (refine rgT ?_;intro K hK) | (refine dA ?_;intro K hK) | (with_reducible refine hK _ ?_;clear hK K) | (refine stq ?_;simp (disch:=(first | omega | (simp;omega))) only [go_sem,w64]) | refine as1 ?_ | fail)
   (refine callL 1000000 (l1ByteA) ?_)
   rintro r os ⟨x,hx,rfl,rfl⟩
   refine ⟨by decide,?_⟩
   repeat' (first | refine sq ?_ | refine stp ?_ | refine blk_o (by decide) ?_ | (apply cb;(focus (simp (disch:=(first | omega | (simp;omega))) only [go_sem,w64];try exact rfl));refine cok ?_) | (refine rgT ?_;intro K hK) | (refine dA ?_;intro K hK) | (with_reducible refine hK _ ?_;clear hK K) | (refine stq ?_;simp (disch:=(first | omega | (simp;omega))) only [go_sem,w64]) | refine as1 ?_ | fail)
   (refine callL 1000000 (l1ByteA) ?_)
   rintro r os ⟨y,hy,rfl,rfl⟩
   refine ⟨by decide,?_⟩
   repeat' (first | refine sq ?_ | refine stp ?_ | refine blk_o (by decide) ?_ | (apply cb;(focus (simp (disch:=(first | omega | (simp;omega))) only [go_sem,w64];try exact rfl));refine cok ?_) | (refine rgT ?_;intro K hK) | (refine dA ?_;intro K hK) | (with_reducible refine hK _ ?_;clear hK K) | (refine stq ?_;simp (disch:=(first | omega | (simp;omega))) only [go_sem,w64]) | refine as1 ?_ | fail)
   (refine callL 1000000 (l1ByteA) ?_)
   rintro r os ⟨z,hz,rfl,rfl⟩
   refine ⟨by decide,?_⟩
   repeat' (first | refine sq ?_ | refine stp ?_ | refine blk_o (by decide) ?_ | (apply cb;(focus (simp (disch:=(first | omega | (simp;omega))) only [go_sem,w64];try exact rfl));refine cok ?_) | (refine rgT ?_;intro K hK) | (refine dA ?_;intro K hK) | (with_reducible refine hK _ ?_;clear hK K) | (refine stq ?_;simp (disch:=(first | omega | (simp;omega))) only [go_sem,w64]) | refine as1 ?_ | fail)
   (refine callL 1000000 (l1ByteA) ?_)
   rintro r os ⟨v,hv,rfl,rfl⟩
   refine ⟨by decide,?_⟩
   have w1:IntKind.i64.wrap (x*16777216)=x*16777216:=w64 (by omega)
   have w2:IntKind.i64.wrap (y*65536)=y*65536:=w64 (by omega)
   have w3:IntKind.i64.wrap (x*16777216+y*65536)=x*16777216+y*65536:=w64 (by omega)
   have w4:IntKind.i64.wrap (z*256)=z*256:=w64 (by omega)
   have w5:IntKind.i64.wrap (x*16777216+y*65536+z*256)=x*16777216+y*65536+z*256:=w64 (by omega)
   have w6:IntKind.i64.wrap (x*16777216+y*65536+z*256+v)=x*16777216+y*65536+z*256+v:=w64 (by omega)
   repeat' (first | refine sq ?_ | refine stp ?_ | refine blk_o (by decide) ?_ | (apply cb;(focus (simp (disch:=(first | omega | (simp;omega))) only [go_sem,w64,hn0,w1,w2,w3,w4,w5,w6];try exact rfl));refine cok ?_) | (refine rgT ?_;intro K hK) | (refine dA ?_;intro K hK) | (with_reducible refine hK _ ?_;clear hK K) | (refine stq ?_;simp (disch:=(first | omega | (simp;omega))) only [go_sem,w64,hn0,w1,w2,w3,w4,w5,w6]) | refine as1 ?_ | fail)
   refine end1 0 (.inr rfl) (by simp (disch:=(first | omega | (simp;omega))) only [go_sem,w64];rfl) (by simp (disch:=(first | omega | (simp;omega))) only [go_sem,w64];rfl) (r:=.d (.int ((x*16777216+y*65536+z*256+v).tmod n))) (by simp (disch:=(first | omega | (simp;omega))) only [go_sem,w64];exact .refl _) ?_
   generalize hq:x*16777216+y*65536+z*256+v=q
   have hq0:0≤q:=by omega
   have e:q.tmod n=q % n:=Int.tmod_eq_emod_of_nonneg hq0
   have e1:=Int.emod_nonneg q hn0
   have e2:=Int.emod_lt_of_pos q (show 0<n by omega)
   exact ⟨_,⟨by omega,fun h=>by omega,fun _=>by omega⟩,rfl,rfl⟩
theorem l1OnceA (n:Int):AFn 26 [.ptr 0 0,.d (.int n)] [curL] (fun r os=>∃ b:Bool,r=.d (.bool b)∧os=[curL]):=by
 refine afn_of (rv:=[.tmp 4]) tyT_ok Tryd.func26 rfl (by decide +kernel) Tryd.ntmps26 rfl (by simp) ?_
 repeat' (first | refine sq ?_ | refine stp ?_ | refine blk_o (by decide) ?_ | (apply cb;(focus (simp (disch:=(first | omega | (simp;omega))) only [go_sem,w64];try exact rfl));refine cok ?_) | (refine rgT ?_;intro K hK) | (refine dA ?_;intro K hK) | (with_reducible refine hK _ ?_;clear hK K) | (refine stq ?_;simp (disch:=(first | omega | (simp;omega))) only [go_sem,w64]) | refine as1 ?_ | fail)
 (refine callL 1000000 (l1BelowA n) ?_)
 rintro r os ⟨x,hx,rfl,rfl⟩
 refine ⟨by decide,?_⟩
 repeat' (first | refine sq ?_ | refine stp ?_ | refine blk_o (by decide) ?_ | (apply cb;(focus (simp (disch:=(first | omega | (simp;omega))) only [go_sem,w64];try exact rfl));refine cok ?_) | (refine rgT ?_;intro K hK) | (refine dA ?_;intro K hK) | (with_reducible refine hK _ ?_;clear hK K) | (refine stq ?_;simp (disch:=(first | omega | (simp;omega))) only [go_sem,w64]) | refine as1 ?_ | fail)
 refine end1 0 (.inr rfl) (by simp (disch:=(first | omega | (simp;omega))) only [go_sem,w64];rfl) (by simp (disch:=(first | omega | (simp;omega))) only [go_sem,w64];rfl) (r:=.d (.bool (decide (x=0)))) (by simp (disch:=(first | omega | (simp;omega))) only [go_sem,w64];exact .refl _) ?_
 exact ⟨_,rfl,rfl⟩
theorem l1NewA (l:List Int) (hl:l.length≤1048576):AFn 22 [.d (.sl 1 (l.map .byte))] [] (fun r os=>r=.ptr 0 0∧os=[curL]):=by
 have h:AFn 22 [.d (.sl 1 (l.map .byte))] [] (fun r os=>∃ h,r=.ptr 0 0∧os=[curC l 0 h]):=by
  refine afn_of (rv:=[.tmp 2]) tyT_ok Tryd.func22 rfl (by decide +kernel) Tryd.ntmps22 rfl (by simp) ?_
  repeat' (first | refine sq ?_ | refine stp ?_ | refine blk_o (by decide) ?_ | (apply cb;(focus (simp (disch:=(first | omega | (simp;omega))) only [go_sem,w64];try exact rfl));refine cok ?_) | (refine rgT ?_;intro K hK) | (refine dA ?_;intro K hK) | (with_reducible refine hK _ ?_;clear hK K) | (refine stq ?_;simp (disch:=(first | omega | (simp;omega))) only [go_sem,w64]) | refine as1 ?_ | fail)
  refine awp_loopw (fun m s=>∃ (k:Nat) (h:Int),m=l.length - k∧k≤l.length∧s=mkS [(0,.d (.sl 1 (l.map .byte))),(3,.d (.int h)),(4,.d (.int (k:Nat)))] []) ?_ ?_
  ·refine ⟨_,_,?_,0,IntKind.i64.wrap (10101+(l.length:Nat)),rfl,Nat.zero_le _,rfl⟩
   exact sleA
  ·rintro m s ⟨k,h,rfl,hk,rfl⟩
   have fin:∀ (h:Int),∃ h',AV.ptr 0 0=AV.ptr 0 0∧[curC l 0 h]=[curC l 0 h']:=fun h=>⟨h,rfl,rfl⟩
   by_cases h1:(k:Int)<(l.length:Nat)
   ·by_cases h2:(k:Int)<4000
    ·repeat' (first | refine sq ?_ | refine stp ?_ | refine blk_o (by decide) ?_ | (apply cb;(focus (simp (disch:=(first | omega | (simp;omega))) only [go_sem,w64,h1,h2,getDB];try exact rfl));refine cok ?_) | (refine rgT ?_;intro K hK) | (refine dA ?_;intro K hK) | (with_reducible refine hK _ ?_;clear hK K) | (refine stq ?_;simp (disch:=(first | omega | (simp;omega))) only [go_sem,w64,h1,h2,getDB]) | refine as1 ?_ | fail)
     refine ⟨l.length - (k+1),_,by omega,?_,k+1,?hv,rfl,by omega,rfl⟩
     ·exact sleA
    ·have h2':(k:Int)<4000↔False:=iff_of_false h2 id
     repeat' (first | refine sq ?_ | refine stp ?_ | refine blk_o (by decide) ?_ | (apply cb;(focus (simp (disch:=(first | omega | (simp;omega))) only [go_sem,w64,h1,h2'];try exact rfl));refine cok ?_) | (refine rgT ?_;intro K hK) | (refine dA ?_;intro K hK) | (with_reducible refine hK _ ?_;clear hK K) | (refine stq ?_;simp (disch:=(first | omega | (simp;omega))) only [go_sem,w64,h1,h2']) | refine as1 ?_ | fail)
     refine endN 31 (.inr rfl) (by simp (disch:=(first | omega | (simp;omega))) only [go_sem,w64];rfl) (by decide) (by simp (disch:=(first | omega | (simp;omega))) only [go_sem,w64];rfl) (r:=.ptr 0 0) (by simp (disch:=(first | omega | (simp;omega))) only [go_sem,w64];exact .refl _) ?_
     exact fin h
   ·have h1':(k:Int)<(l.length:Nat)↔False:=iff_of_false h1 id
    repeat' (first | refine sq ?_ | refine stp ?_ | refine blk_o (by decide) ?_ | (apply cb;(focus (simp (disch:=(first | omega | (simp;omega))) only [go_sem,w64,h1'];try exact rfl));refine cok ?_) | (refine rgT ?_;intro K hK) | (refine dA ?_;intro K hK) | (with_reducible refine hK _ ?_;clear hK K) | (refine stq ?_;simp (disch:=(first | omega | (simp;omega))) only [go_sem,w64,h1']) | refine as1 ?_ | fail)
    refine endN 31 (.inr rfl) (by simp (disch:=(first | omega | (simp;omega))) only [go_sem,w64];rfl) (by decide) (by simp (disch:=(first | omega | (simp;omega))) only [go_sem,w64];rfl) (r:=.ptr 0 0) (by simp (disch:=(first | omega | (simp;omega))) only [go_sem,w64];exact .refl _) ?_
    exact fin h
 refine afn_weak1 h ?_
 rintro r os ⟨h',rfl,rfl⟩
 exact ⟨_,_,_,rfl,.refl _,cur_le (by omega),rfl,rfl⟩
theorem bigA (code:List Int) (hl:code.length≤9223372036854775807):AFn 5 [.d (.sl 1 (code.map .byte))] [] (fun r os=>r=.d (.bool (decide ((1048576:Int)<(code.length:Nat))))∧os=[]):=by
 refine afn_of (rv:=[.tmp 2]) tyT_ok Tryd.func5 rfl (by decide +kernel) Tryd.ntmps5 rfl (by simp) ?_
 repeat' (first | refine sq ?_ | refine stp ?_ | refine blk_o (by decide) ?_ | (apply cb;(focus (simp (disch:=(first | omega | (simp;omega))) only [go_sem,w64];try exact rfl));refine cok ?_) | (refine rgT ?_;intro K hK) | (refine dA ?_;intro K hK) | (with_reducible refine hK _ ?_;clear hK K) | (refine stq ?_;simp (disch:=(first | omega | (simp;omega))) only [go_sem,w64]) | refine as1 ?_ | fail)
 (refine endA (r:=.d (.bool (decide ((1048576:Int)<(code.length:Nat))))) ?_)
 exact ⟨rfl,rfl⟩
theorem l1PickIntM (xs:List Int) (h0:0<xs.length):AFn 50 [.ptr 0 0,.d (intsD xs)] [curL] (fun r os=>∃ x:Int,x∈xs∧r=.d (.int x)∧os=[curL]):=by
 refine afn_of (rv:=[.tmp 4]) tyT_ok Tryd.func50 rfl (by decide +kernel) Tryd.ntmps50 rfl (by simp) ?_
 repeat' (first | refine sq ?_ | refine stp ?_ | refine blk_o (by decide) ?_ | (apply cb;(focus (simp (disch:=(first | omega | (simp;omega))) only [go_sem,w64,intsD];try exact rfl));refine cok ?_) | (refine rgT ?_;intro K hK) | (refine dA ?_;intro K hK) | (with_reducible refine hK _ ?_;clear hK K) | (refine stq ?_;simp (disch:=(first | omega | (simp;omega))) only [go_sem,w64,intsD]) | refine as1 ?_ | fail)
 (refine callL 1000000 (l1BelowA (xs.length:Nat)) ?_)
 rintro r os ⟨x,⟨hx0,_,hx1⟩,rfl,rfl⟩
 have hx2:=hx1 (by omega)
 have hk:x.toNat<xs.length:=by omega
 refine ⟨by decide,?_⟩
 repeat' (first | refine sq ?_ | refine stp ?_ | refine blk_o (by decide) ?_ | (apply cb;(focus (simp (disch:=(first | omega | (simp;omega))) only [go_sem,w64,intsD];try exact rfl));refine cok ?_) | (refine rgT ?_;intro K hK) | (refine dA ?_;intro K hK) | (with_reducible refine hK _ ?_;clear hK K) | (refine stq ?_;simp (disch:=(first | omega | (simp;omega))) only [go_sem,w64,intsD]) | refine as1 ?_ | fail)
 refine end1 0 (.inr rfl) (by simp (disch:=(first | omega | (simp;omega))) only [go_sem,w64];rfl) (by simp (disch:=(first | omega | (simp;omega))) only [go_sem,w64];rfl) (r:=.d (.int (ix xs x.toNat))) (by simp (disch:=(first | omega | (simp;omega))) only [go_sem,w64];exact .refl _) ?_
 exact ⟨_,by rw [ix_lt hk];exact List.getElem_mem _,rfl,rfl⟩
theorem l1PickIntA (xs:List Int) (h0:0<xs.length):AFn 50 [.ptr 0 0,.d (intsD xs)] [curL] (fun r os=>∃ x:Int,r=.d (.int x)∧os=[curL]) :=
 afn_weak1 (l1PickIntM xs h0) (fun r os ⟨x,_,e1,e2⟩=>⟨r,curL,curL,e2,.refl _,ales_eq rfl,x,e1,rfl⟩)
end Go.Proofs.YtkohkoiegmcghaaDoor
namespace Go.Proofs.YtkohkoiegmcghaaDoor
set_option linter.unusedSimpArgs false
set_option linter.unusedVariables false
attribute [local go_sem ↓] reduceIte
attribute [local go_sem] Nat.reduceEqDiff Nat.reduceLT Nat.reduceAdd Nat.reduceLeDiff Nat.reduceMul Nat.reduceBEq Nat.reduceSub reduceCtorEq Int.reduceLE Int.reduceNeg Int.reduceLT
open Go.RowKit
theorem LStep.weak {P:Cx→Prop} {N:Nat} {o:Oper} {s s0:AS} {K:AS→Prop} (h:SLe s s0) (hl:LStep P N o s0 K):LStep P N o s K:=fun X G a w hN hP hr=>by
 obtain ⟨G',hr'⟩:=Rel.weak h ⟨G,hr⟩
 exact hl X G' a w hN hP hr'
theorem ssim_tm {e:Pk} {s s':AS} {x:AV} (t:Nat) (h:SSim e s s') (hx:s.tm t=x):ASim e x (s'.tm t):=hx ▸ h.1 t
theorem ssim_ob {e:Pk} {s s':AS} {l:List AV} (q:Nat) (h:SSim e s s') (hq:s.ob q=some l):∃ l',s'.ob q=some l'∧ASims e l l':=by
 rcases h.2 q with ⟨h1,_⟩ | ⟨l0,l',h1,h2,h3⟩
 ·rw [hq] at h1;cases h1
 ·rw [hq] at h1;cases h1;exact ⟨l',h2,h3⟩
theorem csims_ints {e:Pk}:∀ {l:List Int} {m:List DV},CSims e (l.map .int) m→∃ l':List Int,m=l'.map .int∧l'.length=l.length
 | [],m,h=>by obtain rfl:=h;exact ⟨[],rfl,rfl⟩
 | x :: l,m,h=>by
  obtain ⟨_,m',rfl,⟨z,rfl,_⟩,h2⟩:=h
  obtain ⟨l',rfl,e1⟩:=csims_ints h2
  exact ⟨z :: l',rfl,by simp [e1]⟩
theorem csims_bytes {e:Pk}:∀ {l:List Int} {m:List DV},CSims e (l.map .byte) m→m=l.map .byte
 | [],m,h=>by obtain rfl:=h;rfl
 | x :: l,m,h=>by
  obtain ⟨_,m',rfl,rfl,h2⟩:=h
  rw [csims_bytes h2];rfl
theorem cur_sim {e:Pk} {l:List AV} (h:ASims e curL l):ALes l curL:=by
 obtain ⟨_,_,rfl,rfl,_,_,rfl,rfl,_,_,rfl,rfl,rfl⟩:=h
 refine .cons (.anyP ?_) (.cons (.anyP ?_) (.cons (.anyP ?_) .nil))
 ·rintro y ⟨x,⟨l,rfl⟩,l',rfl,h⟩
  exact ⟨l,by rw [csims_bytes h]⟩
 ·rintro y ⟨x,⟨n,hn,rfl⟩,rfl⟩
  exact ⟨n,hn,rfl⟩
 ·rintro y ⟨x,⟨n,rfl⟩,rfl⟩
  exact ⟨n,rfl⟩
theorem nod_args:∀ x∈[AV.ptr 0 0],NoD x:=by
 intro x hx
 simp only [List.mem_singleton] at hx
 subst hx
 exact nod_ptr 0 0
theorem nod_cur:∀ l∈[curL],∀ x∈l,NoD x:=by
 intro l hl x hx
 simp only [List.mem_singleton] at hl
 subst hl
 simp only [curL,List.mem_cons,List.not_mem_nil,or_false] at hx
 rcases hx with rfl | rfl | rfl
 ·exact nod_anyB fun x h=>h
 ·exact nod_anyI fun x ⟨n,_,e⟩=>⟨n,e⟩
 ·exact nod_anyI fun x h=>h
end Go.Proofs.YtkohkoiegmcghaaDoor
namespace Go.Proofs.YtkohkoiegmcghaaDoor
set_option linter.unusedSimpArgs false
set_option linter.unusedVariables false
open Go.RowKit
theorem RelG.obm {X:Cx} {G:Gh} {s:AS} {a:Act} {w:World} {q:Nat} {l l':List AV} (h:RelG X G s a w) (hq:s.ob q=some l) (h2:∀ us,CVs G w l us→CVs G w l' us):RelG X G (s.setOb q (some l')) a w:=by
 have hs:∀ o,(s.setOb q (some l')).ob o ≠ none→s.ob o ≠ none:=fun o ho e=>by
  by_cases eo:o=q
  ·subst eo;rw [hq] at e;cases e
  ·exact ho (by simp [AS.setOb,eo,e])
 refine ⟨h.fr,h.df,h.n,h.tm,h.bf,fun o l2 ho=>?_,h.cs,h.d1,fun o o' a1 a2=>h.d2 o o' (hs o a1) (hs o' a2),fun o g a1=>h.d3 o g (hs o a1),fun o a1=>h.ow o (hs o a1),h.lc,h.nl,fun i a1=>h.ln i (hs _ a1),h.c0,h.uf⟩
 simp only [AS.setOb] at ho
 split at ho
 ·rename_i e
  subst e
  cases ho
  obtain ⟨g1,g2,us,g3,g4,g5⟩:=h.ob _ l hq
  exact ⟨g1,g2,us,h2 us g3,g4,g5⟩
 ·exact h.ob o l2 ho
theorem cvs_set {G:Gh} {w:World} {x y:AV} (hxy:∀ v,CV G w x v→CV G w y v):∀ {l:List AV} {us:List Value} {i:Nat},l[i]? = some x→CVs G w l us→CVs G w (l.set i y) us
 | [],us,i,h,_=>by simp at h
 | z :: l,us,i,h,hc=>by
  obtain ⟨v,us',rfl,h1,h2⟩:=hc
  cases i with
  | zero=>simp at h;subst h;exact ⟨v,us',rfl,hxy v h1,h2⟩
  | succ i=>exact ⟨v,us',rfl,h1,cvs_set hxy (by simpa using h) h2⟩
theorem awp_nilbufO {P:Cx→Prop} {N:Nat} {Q:Exit→AS→Prop} {s:AS} {c:Code} (q i g:Nat) (T:TypeId) (k:Nat) {l:List AV} (hq:s.ob q=some l) (hi:l[i]? = some .nil)
 (h:AWp P N c Q ((s.newB g).setOb q (some ((scrubs (fun g'=>!(g' == g)) (fun _=>true) l).set i (.buf g T k []))))):AWp P N c Q s:=by
 intro X a w hN hP ⟨G,hr⟩
 have hset:=hr.setBuf (w':=w) (g:=g) (T:=T) (k:=k) (World.grownBy.refl w _) (fun _ _ _ _=>rfl) (fun b j hb' hc=>by obtain ⟨a9,n9,c9,vs9,q1,q2,q3⟩:=hr.bf g;exact hr.uf b j hc (q2.1.lt b (by rw [← q1];exact hb')).1) (ownF_nil T k w X.w0.heap.size) (fun b hb=>by cases hb) (fun _ _=>False) (fun _ _ h=>h.elim) (fun b i hb=>by cases hb)
 refine h X a w hN hP ⟨_,RelG.obm hset (l:=scrubs (fun g'=>!(g' == g)) (fun _=>true) l) ?_ ?_⟩
 ·show (s.ob q).map (List.map (scrub (fun g'=>!(g' == g)) (fun _=>true)))=_
  rw [hq,Option.map_some,scrubs_map]
 ·intro us hu
  refine cvs_set (x:=.nil) (fun v hv=>?_) ?_ hu
  ·simp only [CV] at hv
   subst hv
   exact ⟨by simp,by simp,by simp,cx_whnil _ _ _⟩
  ·rw [scrubs_map,List.getElem?_map,hi];rfl
end Go.Proofs.YtkohkoiegmcghaaDoor
namespace Go.Proofs.YtkohkoiegmcghaaDoor
set_option linter.unusedSimpArgs false
set_option linter.unusedVariables false
attribute [local go_sem ↓] reduceIte
attribute [local go_sem] Nat.reduceEqDiff Nat.reduceLT Nat.reduceAdd Nat.reduceLeDiff Nat.reduceMul Nat.reduceBEq Nat.reduceSub reduceCtorEq Int.reduceLE Int.reduceNeg Int.reduceLT
open Go.RowKit
abbrev P3 (z:Int):Prop:=-3≤z∧z≤3
abbrev Q3 (x:RatD):Prop:=P3 x.num∧P3 x.den
structure LpFit (A:List (List RatD)) (B C:List RatD):Prop where
 a:A.length≤3
 r:∀ r∈A,r.length≤3∧∀ x∈r,Q3 x
 b:B.length≤3
 bq:∀ x∈B,Q3 x
 c:C.length≤3
 cq:∀ x∈C,Q3 x
end Go.Proofs.YtkohkoiegmcghaaDoor
namespace Go.Proofs.YtkohkoiegmcghaaDoor
set_option linter.unusedSimpArgs false
set_option linter.unusedVariables false
open Go.RowKit
def FindV (T n:Nat) (rows:List (List RatD)) (right:List RatD):Prop:=∀ (L:List Nat),L.Sublist (List.range T)→L.length=n→∀ x:Nat→Rat,
 (∀ i∈L,sig (fun k=>qv (qx (mx rows i) k)*x k) n=qv (qx right i))→(∀ d:Nat→Rat,(∀ i∈L,sig (fun k=>qv (qx (mx rows i) k)*d k) n=0)→∀ j,j<n→d j=0)→(∃ l,solF (L.map (mx rows ·)) (L.map (qx right ·))=some l∧l.length=n∧∀ i,i<n→vR (qx l i)=true∧qv (qx l i)=x i)∧∃ (D:Int) (X:Nat→Int),D ≠ 0∧D.natAbs≤34992∧∀ j,j<n→(X j).natAbs≤34992∧x j=(X j:Rat) / (D:Rat)
structure SmallA (A:List (List RatD)) (B C:List RatD):Prop where
 lp:lpV A B C=true
 la:A.length=B.length
 ra:∀ i,i<B.length→(mx A i).length=C.length∧∀ k,k<C.length→S3 (qx (mx A i) k)
 sb:∀ i,i<B.length→S3 (qx B i)
 sc:∀ i,i<C.length→S3 (qx C i)
 n5:C.length≤5
structure SmallLp (A:List (List RatD)) (B C:List RatD):Prop extends SmallA A B C where
 find:FindV (B.length+C.length) C.length (rowsF A C.length) (rightF B C.length)
theorem mvTo_at {M:List (List RatD)} {x:List RatD}:∀ {k:Nat} {l:List RatD},mvTo M x k=some l→l.length=k∧∀ i,i<k→dotF (mx M i) x=some (qx l i)
 | 0,l,h=>by simp only [mvTo,Option.some.injEq] at h;subst h;exact ⟨rfl,fun i hi=>absurd hi (Nat.not_lt_zero _)⟩
 | k+1,l,h=>by
  simp only [mvTo] at h
  split at h
  ·rename_i l0 y h1 h2
   simp only [Option.some.injEq] at h
   subst h
   obtain ⟨g1,g2⟩:=mvTo_at h1
   refine ⟨by simp [g1],fun i hi=>?_⟩
   by_cases e:i=k
   ·subst e;rw [h2];simp [qx,List.getD,← g1]
   ·rw [g2 i (by omega)]
    simp [qx,List.getD,List.getElem?_append_left (show i<l0.length by omega)]
  ·cases h
section
variable {A:List (List RatD)} {B Cc:List RatD} {l:List RatD}
theorem feas_out {sg:Int} (hsg:sg=1∨sg = -1) (h:feasF A B Cc l sg=true) (hb:∀ i,i<B.length→vR (qx B i)=true) (hAl:A.length=B.length) (hAr:∀ i,i<B.length→(mx A i).length=Cc.length):l.length=Cc.length∧(∀ i,i<Cc.length→vR (qx l i)=true∧0≤qv (qx l i)) ∧
 ∀ i,i<B.length→if sg=1 then qv (qx B i)≤sig (fun k=>vM A i k*qv (qx l k)) Cc.length else sig (fun k=>vM A i k*qv (qx l k)) Cc.length≤qv (qx B i):=by
 simp only [feasF,Bool.and_eq_true,decide_eq_true_eq] at h
 obtain ⟨_,h1,h2,h3,h4⟩:=h
 split at h4
 ·rename_i r hr
  obtain ⟨g1,g2⟩:=mvTo_at hr
  have hv:∀ i,i<Cc.length→vR (qx l i)=true:=fun i hi=>vL_at h2 (by omega)
  have hs:∀ i,i<B.length→vR (qx r i)=true∧qv (qx r i)=sig (fun k=>vM A i k*qv (qx l k)) Cc.length:=fun i hi=>by
   obtain ⟨_,k2,k3⟩:=dotF_sig (g2 i (by omega))
   rw [hAr i hi] at k3
   exact ⟨k2,k3⟩
  refine ⟨h1,fun i hi=>⟨hv i hi,(qv_nonneg (hv i hi)).2 (of_decide_eq_true (List.all_eq_true.1 h3 i (List.mem_range.2 (by omega))))⟩,fun i hi=>?_⟩
  rcases hsg with rfl | rfl
  ·rw [if_pos rfl]
   have:=(sideL_ge (fun i hi=>⟨(hs i (by omega)).1,hb i (by omega)⟩)).1 h4 i (by omega)
   rw [← (hs i hi).2];exact this
  ·rw [if_neg (by decide)]
   have:=(sideL_le (fun i hi=>⟨(hs i (by omega)).1,hb i (by omega)⟩)).1 h4 i (by omega)
   rw [← (hs i hi).2];exact this
 ·cases h4
variable (hS:SmallA A B Cc)
include hS
theorem SmallA.vb {i:Nat} (hi:i<B.length):vR (qx B i)=true:=(hS.sb i hi).1
theorem SmallA.feas {sg:Int} (hsg:sg=1∨sg = -1) {x:Nat→Rat} {D:Int} {X:Nat→Int} (hl:l.length=Cc.length) (hv:∀ i,i<Cc.length→vR (qx l i)=true∧qv (qx l i)=x i) (hD:D ≠ 0) (hDb:D.natAbs≤34992) (hX:∀ k,k<Cc.length→(X k).natAbs≤34992∧x k=(X k:Rat) / (D:Rat))
 (hp:∀ j,j<Cc.length→0≤x j) (hs:∀ i,i<B.length→if sg=1 then qv (qx B i)≤sig (fun k=>vM A i k*x k) Cc.length else sig (fun k=>vM A i k*x k) Cc.length≤qv (qx B i)):feasF A B Cc l sg=true:=by
 obtain ⟨s,e,h⟩:=mv_fits (M:=A) (x:=l) hS.n5 (fun i hi=>(hS.ra i (by have:=hS.la;omega)).1) hl (fun i hi=>(hS.ra i (by have:=hS.la;omega)).2) (fun k hk=>(hv k hk).1) hD hDb (fun k hk=>⟨(hX k hk).1,by rw [(hv k hk).2];exact (hX k hk).2⟩)
 have hla:=hS.la
 have h2:∀ i,i<B.length→qv (s i)=sig (fun k=>vM A i k*x k) Cc.length:=fun i hi=>by
  rw [(h i (by omega)).2]
  exact sig_congr fun k hk=>by rw [(hv k hk).2];rfl
 have hq:∀ i,i<A.length→qx ((List.range A.length).map s) i=s i:=fun i hi=>by simp [qx,List.getD,hi]
 simp only [feasF,Bool.and_eq_true,decide_eq_true_eq]
 refine ⟨hS.lp,hl,vL_yes fun j hj=>(hv j (by omega)).1,posL_of fun i hi=>⟨(hv i (by omega)).1,by rw [(hv i (by omega)).2];exact hp i (by omega)⟩,?_⟩
 rw [e]
 have hval:∀ i,i<((List.range A.length).map s).length→vR (qx ((List.range A.length).map s) i)=true∧vR (qx B i)=true:=fun i hi=>by
  have hi':i<A.length:=by simpa using hi
  rw [hq i hi']
  exact ⟨(h i hi').1,hS.vb (by omega)⟩
 rcases hsg with rfl | rfl
 ·refine (sideL_ge hval).2 fun i hi=>?_
  have hi':i<A.length:=by simpa using hi
  rw [hq i hi',h2 i (by omega)]
  have:=hs i (by omega)
  rwa [if_pos rfl] at this
 ·refine (sideL_le hval).2 fun i hi=>?_
  have hi':i<A.length:=by simpa using hi
  rw [hq i hi',h2 i (by omega)]
  have:=hs i (by omega)
  rwa [if_neg (by decide)] at this
omit hS
end
section
variable {A:List (List RatD)} {B Cc:List RatD}
theorem best_dot {sg:Int} {C:List RatD} {V:List (List RatD)} (hsg:sg=1∨sg = -1) {y:List RatD} (hy:y∈V) {s:RatD} (hs:dotF C y=some s):(bestF C V sg).found=true∧(bestF C V sg).pt∈V∧dotF C (bestF C V sg).pt=some (bestF C V sg).val∧if sg=1 then qv (bestF C V sg).val≤qv s else qv s≤qv (bestF C V sg).val:=by
 obtain ⟨h1,h2⟩:=bestF_ok C V hsg
 obtain ⟨h3,h4⟩:=h2 y hy s hs
 obtain ⟨h5,h6⟩:=h1 h3
 refine ⟨h3,h5,h6,?_⟩
 rcases hsg with rfl | rfl
 ·rw [if_pos rfl];exact (cmpQ_ge (dotF_v hs) (dotF_v h6)).1 h4
 ·rw [if_neg (by decide)];exact (cmpQ_le (dotF_v hs) (dotF_v h6)).1 h4
end
theorem mem_qx {l:List RatD} {i:Nat} (h:i<l.length):qx l i∈l:=by simp [qx,List.getD,h]
section
variable {A:List (List RatD)} {B C:List RatD}
theorem trq_len (A:List (List RatD)) (n:Nat):(trQ A n).length=n:=by simp [trQ]
theorem tr_row {A:List (List RatD)} {n k:Nat} (h:k<n):mx (trQ A n) k=A.map fun r=>qx r k:=by simp [trQ,mx,List.getD,h]
theorem tr_at {A:List (List RatD)} {n k i:Nat} (h:k<n) (hi:i<A.length):qx (mx (trQ A n) k) i=qx (mx A i) k:=by rw [tr_row h];simp [qx,mx,List.getD,hi]
theorem tr_lp (hlp:lpV A B C=true):lpV (trQ A C.length) C B=true:=by
 obtain ⟨⟨c1,c2⟩,⟨b1,b2⟩,hm,hb,hc⟩:=lpV_out hlp
 obtain ⟨m1,m2⟩:=matOK_out hm
 simp only [lpV,Bool.and_eq_true]
 refine ⟨decide_eq_true (by omega),decide_eq_true (by omega),?_,hc,hb⟩
 simp only [matOK,Bool.and_eq_true]
 refine ⟨decide_eq_true (trq_len _ _),matOK_rows fun j hj=>?_⟩
 rw [trq_len] at hj
 simp only [rowV,Bool.and_eq_true]
 refine ⟨decide_eq_true (by rw [tr_row hj,List.length_map];exact m1),vL_yes fun i hi=>?_⟩
 have hi':i<A.length:=by rw [tr_row hj,List.length_map] at hi;exact hi
 rw [tr_at hj hi']
 exact vL_at (m2 i hi').2 (by rw [(m2 i hi').1];exact hj)
theorem tr_vM (hm:A.length=B.length) {k i:Nat} (hk:k<C.length) (hi:i<B.length):vM (trQ A C.length) k i=vM A i k:=by unfold vM;rw [tr_at hk (by omega)]
end
end Go.Proofs.YtkohkoiegmcghaaDoor
namespace Go.Proofs.YtkohkoiegmcghaaDoor
set_option linter.unusedSimpArgs false
set_option linter.unusedVariables false
open Go.RowKit
def IntM (n B:Nat) (M:Nat→Nat→Rat):Prop:=∃ w:Nat→Nat→Int,∀ i k,i<n→k<n+1→M i k=(w i k:Rat)∧(w i k).natAbs≤B
theorem intM_of {n B:Nat} {M:Nat→Nat→Rat} (h:∀ i k,i<n→k<n+1→∃ w:Int,M i k=(w:Rat)∧w.natAbs≤B):IntM n B M:=by
 obtain ⟨w,hw⟩:=Classical.axiomOfChoice (r:=fun (p:Nat×Nat) (w:Int)=>p.1<n→p.2<n+1→M p.1 p.2=(w:Rat)∧w.natAbs≤B) fun p=>by
  by_cases h1:p.1<n
  ·by_cases h2:p.2<n+1
   ·obtain ⟨w,hw⟩:=h _ _ h1 h2;exact ⟨w,fun _ _=>hw⟩
   ·exact ⟨0,fun _ g=>absurd g h2⟩
  ·exact ⟨0,fun g=>absurd g h1⟩
 exact ⟨fun i k=>w (i,k),fun i k hi hk=>hw (i,k) hi hk⟩
theorem div_unit {a u:Rat} (h:u=1∨u = -1):a / u=a*u:=by
 rcases h with h | h <;> subst h
 ·have:=Rat.div_mul_cancel (a:=a) (b:=1) (by decide);generalize a / 1=t at *;grind
 ·have:=Rat.div_mul_cancel (a:=a) (b:=-1) (by decide);generalize a / -1=t at *;grind
theorem int_step {B:Nat} {a b c e u:Rat} {wa wb we wu:Int} (ha:a=wa) (hb:b=wb) (he:e=we) (hu:u=wu) (hu1:wu=1∨wu = -1):a - b / u*e=((wa - wb*wu*we:Int):Rat):=by
 rw [div_unit (by rcases hu1 with h | h <;> subst h <;> simp [hu]),ha,hb,he,hu,Rat.intCast_sub,Rat.intCast_mul,Rat.intCast_mul]
theorem ones_step {n:Nat} {M:Nat→Nat→Rat} {k:Nat} (hM:∀ i j,i<n→j<n+1→M i j=0∨M i j=1) (hk:k<n) (h0:M k 0 ≠ 0) :
 IntM n 1 (fun i j=>if i=0 then M k j else M (swI 0 k i) j - M (swI 0 k i) 0 / M k 0*M k j)∧M k 0=1:=by
 have h1:M k 0=1:=by
  rcases hM k 0 hk (by omega) with h | h
  ·exact absurd h h0
  ·exact h
 refine ⟨intM_of fun i j hi hj=>?_,h1⟩
 have hz:∀ i j,i<n→j<n+1→∃ w:Int,M i j=(w:Rat)∧(w=0∨w=1):=fun i j hi hj=>by
  rcases hM i j hi hj with h | h
  ·exact ⟨0,by rw [h];rfl,.inl rfl⟩
  ·exact ⟨1,by rw [h];rfl,.inr rfl⟩
 obtain ⟨e,he,ke⟩:=hz k j hk hj
 by_cases c:i=0
 ·simp only [c,if_true]
  exact ⟨e,he,by omega⟩
 ·simp only [c,if_false]
  have hs:swI 0 k i<n:=swI_lt (by omega) hk hi
  obtain ⟨a,ha,ka⟩:=hz _ j hs hj
  obtain ⟨b,hb,kb⟩:=hz _ 0 hs (by omega)
  refine ⟨a - b*1*e,int_step (B:=1) (c:=0) ha hb he h1 (.inl rfl),?_⟩
  rcases kb with h | h <;> subst h <;> omega
def cN:Nat→Nat
 | 0=>1
 | 1=>1
 | 2=>2
 | 3=>8
 | 4=>128
 | _=>32768
def cD:Nat→Nat
 | 0=>1
 | 1=>1
 | 2=>1
 | 3=>2
 | 4=>16
 | _=>2048
def Pc (n p:Nat) (M:Nat→Nat→Rat):Prop:=Crude n (cN p) (cD p) M∧(p=0→∀ i j,i<n→j<n+1→M i j=0∨M i j=1)
theorem crude_int {n B:Nat} {M:Nat→Nat→Rat} (h:IntM n B M):Crude n B 1 M:=fun i hi=>by
 obtain ⟨w,hw⟩:=h
 exact ⟨w i,1,by omega,by omega,fun k hk=>(hw i k hi hk).2,fun k hk=>by rw [(hw i k hi hk).1];grind⟩
theorem pc_swap {n:Nat} (p k:Nat) (M M':Nat→Nat→Rat) (h:Pc n p M) (hp:p<n) (hpk:p≤k) (hk:k<n) (e:∀ i j,M' i j=M (swI p k i) j):Pc n p M' :=
 ⟨h.1.swap hp hk e,fun h0 i j hi hj=>by rw [e];exact h.2 h0 _ j (swI_lt hp hk hi) hj⟩
theorem pc_step {n:Nat} (hn:n≤5) (p:Nat) (M:Nat→Nat→Rat) (h:Pc n p M) (hp:p<n) (h0:M p p ≠ 0) :
 (∀ i k,i<n→i ≠ p→p≤k→k<n+1→Fits (M i p / M p p)∧Fits (M i p / M p p*M p k)∧Fits (M i k - M i p / M p p*M p k)) ∧
  ∀ M',(∀ k,M' p k=M p k)→(∀ i k,i<n→i ≠ p→k<n+1→M' i k=M i k - M i p / M p p*M p k)→Pc n (p+1) M':=by
 have hcr:=h.1.step hp h0
 rcases p with _ | _ | _ | _ | _ | p
 ·obtain ⟨k1,k2⟩:=hcr (by decide) (by decide) (by decide)
  refine ⟨k1,fun M' e1 e2=>⟨?_,fun h=>by omega⟩⟩
  have ho:=(ones_step (k:=0) (h.2 rfl) hp h0).1
  obtain ⟨w,hw⟩:=ho
  refine crude_int ⟨w,fun i k hi hk=>?_⟩
  rw [← (hw i k hi hk).1]
  refine ⟨?_,(hw i k hi hk).2⟩
  by_cases c:i=0
  ·subst c;simp only [if_true];exact e1 k
  ·simp only [c,if_false]
   have:swI 0 0 i=i:=by simp only [swI,c,if_false]
   rw [this];exact e2 i k hi c hk
 ·obtain ⟨k1,k2⟩:=hcr (by decide) (by decide) (by decide)
  exact ⟨k1,fun M' e1 e2=>⟨k2 M' e1 e2,fun h=>by omega⟩⟩
 ·obtain ⟨k1,k2⟩:=hcr (by decide) (by decide) (by decide)
  exact ⟨k1,fun M' e1 e2=>⟨k2 M' e1 e2,fun h=>by omega⟩⟩
 ·obtain ⟨k1,k2⟩:=hcr (by decide) (by decide) (by decide)
  exact ⟨k1,fun M' e1 e2=>⟨k2 M' e1 e2,fun h=>by omega⟩⟩
 ·obtain ⟨k1,k2⟩:=hcr (by decide) (by decide) (by decide)
  exact ⟨k1,fun M' e1 e2=>⟨k2 M' e1 e2,fun h=>by omega⟩⟩
 ·omega
section
variable {n:Nat} (hn:n≤5) {rows:List (List RatD)} {right:List RatD} (hr:right.length=n) (hV:ValM n (n+1) (augF rows right)) (hz:∀ i j,i<n→j<n+1→vM (augF rows right) i j=0∨vM (augF rows right) i j=1)
include hz in
theorem pc_start:Pc n 0 (vM (augF rows right)):=by
 have hz':∀ i j,i<n→j<n+1→∃ w:Int,vM (augF rows right) i j=(w:Rat)∧w.natAbs≤1:=fun i j hi hj=>by
  rcases hz i j hi hj with h | h
  ·exact ⟨0,by rw [h];rfl,by omega⟩
  ·exact ⟨1,by rw [h];rfl,by omega⟩
 exact ⟨crude_int (intM_of hz'),fun _=>hz⟩
include hn hr hV hz
end
def S01 (x:RatD):Prop:=x=⟨0,1⟩∨x=⟨1,1⟩
theorem S01.s3 {x:RatD} (h:S01 x):S3 x:=by
 rcases h with rfl | rfl <;> exact ⟨by decide +kernel,⟨by decide,by decide⟩,by decide⟩
theorem S01.v {x:RatD} (h:S01 x):qv x=0∨qv x=1:=by
 rcases h with rfl | rfl
 ·exact .inl qv01.1
 ·exact .inr qv01.2
theorem chosen01 {A:List (List RatD)} {B C:List RatD} (hlp:lpV A B C=true) (ha:∀ i,i<B.length→∀ k,k<C.length→S01 (qx (mx A i) k)) (hb:∀ i,i<B.length→S01 (qx B i)) {L:List Nat} (hl:L.length=C.length) (hL:∀ i∈L,i<B.length+C.length) :
 ((L.map (mx (rowsF A C.length) ·)).length=C.length∧∀ i,i<C.length→(mx (L.map (mx (rowsF A C.length) ·)) i).length=C.length)∧ValM C.length (C.length+1) (augF (L.map (mx (rowsF A C.length) ·)) (L.map (qx (rightF B C.length) ·))) ∧
  ∀ i j,i<C.length→j<C.length+1→vM (augF (L.map (mx (rowsF A C.length) ·)) (L.map (qx (rightF B C.length) ·))) i j=0∨vM (augF (L.map (mx (rowsF A C.length) ·)) (L.map (qx (rightF B C.length) ·))) i j=1:=by
 obtain ⟨⟨c1,c5⟩,_,hm,_,_⟩:=lpV_out hlp
 obtain ⟨m1,m2⟩:=matOK_out hm
 have hrow:∀ i,i<B.length+C.length→(mx (rowsF A C.length) i).length=C.length∧(∀ k,k<C.length→S01 (qx (mx (rowsF A C.length) i) k))∧S01 (qx (rightF B C.length) i):=fun i hi=>by
  by_cases c:i<B.length
  ·rw [rows_lo (by omega),right_lo c]
   exact ⟨(m2 i (by omega)).1,ha i c,hb i c⟩
  ·obtain ⟨j,rfl⟩:∃ j,i=B.length+j:=⟨i - B.length,by omega⟩
   have hj:j<C.length:=by omega
   have e1:mx (rowsF A C.length) (B.length+j)=unitR C.length j:=by rw [← m1];exact rows_hi hj
   rw [e1,right_hi hj]
   refine ⟨by simp [unitR],fun k hk=>?_,.inl rfl⟩
   rw [unit_at hk]
   split
   ·exact .inr rfl
   ·exact .inl rfl
 generalize C.length=n at *
 generalize rowsF A n=rows at *
 generalize rightF B n=right at *
 have hmem:∀ i,i<n→L.getD i 0∈L:=fun i hi=>by
  have:i<L.length:=by omega
  simp [List.getD,this]
 have hT:∀ i,i<n→L.getD i 0<B.length+n:=fun i hi=>hL _ (hmem i hi)
 have er:∀ i,i<n→mx (L.map (mx rows ·)) i=mx rows (L.getD i 0):=fun i hi=>mx_map (by omega)
 have eb:∀ i,i<n→qx (L.map (qx right ·)) i=qx right (L.getD i 0):=fun i hi=>qx_map (by omega)
 have hll:(L.map (mx rows ·)).length=n:=by simp [hl]
 have hlen:∀ i,i<n→(mx (L.map (mx rows ·)) i).length=n:=fun i hi=>by rw [er i hi];exact (hrow _ (hT i hi)).1
 have hV:=aug_val (right:=L.map (qx right ·)) hll hlen (fun i k hi hk=>by rw [er i hi];exact ((hrow _ (hT i hi)).2.1 k hk).s3.1) (fun i hi=>by rw [eb i hi];exact (hrow _ (hT i hi)).2.2.s3.1)
 refine ⟨⟨hll,hlen⟩,hV,fun i j hi hj=>?_⟩
 unfold vM
 rw [aug_at hll hi (hlen i hi) hj]
 split
 ·rename_i hk2;rw [er i hi];exact ((hrow _ (hT i hi)).2.1 j hk2).v
 ·rw [eb i hi];exact (hrow _ (hT i hi)).2.2.v
theorem small01A {A:List (List RatD)} {B C:List RatD} (hlp:lpV A B C=true) (ha:∀ i,i<B.length→∀ k,k<C.length→S01 (qx (mx A i) k)) (hb:∀ i,i<B.length→S01 (qx B i)) (hc:∀ i,i<C.length→S01 (qx C i)):SmallA A B C:=by
 obtain ⟨⟨c1,c5⟩,_,hm,_,_⟩:=lpV_out hlp
 obtain ⟨m1,m2⟩:=matOK_out hm
 exact ⟨hlp,m1,fun i hi=>⟨(m2 i (by omega)).1,fun k hk=>(ha i hi k hk).s3⟩,fun i hi=>(hb i hi).s3,fun i hi=>(hc i hi).s3,c5⟩
def sumTo (l:List RatD):Nat→Option RatD
 | 0=>some ⟨0,1⟩
 | k+1=>match sumTo l k with
  | none=>none
  | some s=>if (addQ s (qx l k)).2.2=true then some (rq (addQ s (qx l k))) else none
def sumF (l:List RatD):Option RatD:=sumTo l l.length
theorem sumTo_sig {l:List RatD}:∀ {k:Nat} {s:RatD},sumTo l k=some s→vR s=true∧qv s=sig (fun i=>qv (qx l i)) k
 | 0,s,h=>by
  simp only [sumTo,Option.some.injEq] at h
  subst h
  exact ⟨by decide +kernel,by simp [qv,sig];grind⟩
 | k+1,s,h=>by
  simp only [sumTo] at h
  split at h
  ·cases h
  ·rename_i s0 hs
   split at h
   ·rename_i hc
    simp only [Option.some.injEq] at h
    subst h
    obtain ⟨_,h1⟩:=sumTo_sig hs
    obtain ⟨_,_,h3⟩:=addQ_ok hc
    exact ⟨(fitAdd _ _).1 hc,by simp only [sig];rw [h3,h1]⟩
   ·cases h
theorem sum_fits {l:List RatD} {D:Int} {X:Nat→Int} {K:Nat} (hD:D ≠ 0) (hDb:D.natAbs≤1000000000) (hv:∀ i,i<l.length→vR (qx l i)=true) (hX:∀ i,i<l.length→(X i).natAbs≤K∧qv (qx l i)=(X i:Rat) / (D:Rat)) (hK:l.length*K≤1000000000) :
 ∀ k,k≤l.length→∃ s,sumTo l k=some s∧vR s=true∧∃ w:Int,w.natAbs≤k*K∧qv s=(w:Rat) / (D:Rat)
 | 0,_=>⟨⟨0,1⟩,rfl,by decide,0,by omega,by simp [qv];grind⟩
 | k+1,hk=>by
  obtain ⟨s,e,v,w,hw,hq⟩:=sum_fits hD hDb hv hX hK k (by omega)
  obtain ⟨x1,x2⟩:=hX k (by omega)
  have e2:qv s+qv (qx l k)=((w+X k:Int):Rat) / (D:Rat):=by
   rw [hq,x2,Rat.intCast_add]
   have:=castNe hD
   generalize (D:Rat)=T at *
   grind
  have hb:(w+X k).natAbs≤(k+1)*K:=by rw [Nat.add_mul];omega
  have hb2:=Nat.mul_le_mul_right K hk
  obtain ⟨q1,q2,q3⟩:=addQ_fits v (hv k (by omega)) (by rw [e2];exact fits_of hD hDb (by omega))
  exact ⟨_,by simp only [sumTo,e];exact if_pos q1,q2,w+X k,hb,by rw [q3,e2]⟩
theorem mulQ_one {y:RatD} (h:vR y=true):mulQ ⟨1,1⟩ y=(y.num,y.den,true):=by
 have h':ratOK y.num y.den=true:=h
 obtain ⟨h1,h2,h3⟩:=ratOK_out h
 have hb:bothOK 1 1 y.num y.den=true:=by
  simp only [bothOK,Bool.and_eq_true]
  exact ⟨by decide +kernel,h⟩
 unfold mulQ mulR
 simp only [hb,if_true,Int.one_mul]
 rw [newRat_pos (g:=1) (by omega) (by omega) (by omega) h3]
 simp [h']
theorem dot_ones {y:List RatD} {C:List RatD}:∀ (k:Nat),(∀ i,i<k→qx C i=⟨1,1⟩∧vR (qx y i)=true)→dotTo C y k=sumTo y k
 | 0,_=>rfl
 | k+1,h=>by
  obtain ⟨h1,h2⟩:=h k (by omega)
  simp only [dotTo,sumTo,dot_ones k (fun i hi=>h i (by omega)),h1,mulQ_one h2]
  cases hs:sumTo y k with
  | none=>rfl
  | some s=>simp only [rq,true_and]
def lsum (l:List RatD):Rat:=sig (fun i=>qv (qx l i)) l.length
theorem lsum_snoc (l:List RatD) (x:RatD):lsum (l ++ [x])=lsum l+qv x:=by
 unfold lsum
 rw [List.length_append,List.length_singleton]
 simp only [sig]
 have e1:qx (l ++ [x]) l.length=x:=by simp [qx,List.getD]
 rw [e1,sig_congr (g:=fun i=>qv (qx l i)) fun i hi=>by simp only [qx,List.getD];rw [List.getElem?_append_left hi]]
def selB (p:Nat→Bool) (w:List RatD):Nat→List RatD
 | 0=>[]
 | i+1=>if p i=true then selB p w i ++ [qx w i] else selB p w i
theorem selB_len (p:Nat→Bool) (w:List RatD):∀ n:Nat,(selB p w n).length≤n
 | 0=>Nat.le_refl _
 | n+1=>by
  have:=selB_len p w n
  simp only [selB];split
  ·rw [List.length_append,List.length_singleton];omega
  ·omega
theorem selB_sum (p:Nat→Bool) (w:List RatD):∀ n:Nat,lsum (selB p w n)=sig (fun i=>if p i=true then qv (qx w i) else 0) n
 | 0=>rfl
 | n+1=>by
  simp only [selB,sig]
  by_cases h:p n=true
  ·rw [if_pos h,if_pos h,lsum_snoc,selB_sum p w n]
  ·rw [if_neg h,if_neg h,selB_sum p w n];grind
theorem sumF_lsum {l:List RatD} {s:RatD} (h:sumF l=some s):vR s=true∧qv s=lsum l:=sumTo_sig h
theorem sumF_fits {l:List RatD} {D:Int} {K:Nat} (hD:D ≠ 0) (hDb:D.natAbs≤1000000000) (h:∀ x∈l,vR x=true∧∃ X:Int,X.natAbs≤K∧qv x=(X:Rat) / (D:Rat)) (hK:l.length*K≤1000000000):∃ s,sumF l=some s:=by
 obtain ⟨X,hX⟩:=Classical.axiomOfChoice (r:=fun i (X:Int)=>i<l.length→X.natAbs≤K∧qv (qx l i)=(X:Rat) / (D:Rat)) fun i=>by
  by_cases hi:i<l.length
  ·obtain ⟨_,X,h1⟩:=h _ (mem_qx hi)
   exact ⟨X,fun _=>h1⟩
  ·exact ⟨0,fun g=>absurd g hi⟩
 obtain ⟨s,e,_⟩:=sum_fits (X:=X) hD hDb (fun i hi=>(h _ (mem_qx hi)).1) hX hK l.length (Nat.le_refl _)
 exact ⟨s,e⟩
def covB (m n:Nat) (p:Nat→Nat→Bool) (w:List RatD):Bool:=(List.range m).all fun v=>match sumF (selB (p v) w n) with
 | none=>false
 | some s=>!decide (cmpQ s ⟨1,1⟩<0)
def pakB (m n:Nat) (p:Nat→Nat→Bool) (y:List RatD):Bool:=(List.range n).all fun i=>match sumF (selB (fun v=>p v i) y m) with
 | none=>false
 | some s=>!decide (0<cmpQ s ⟨1,1⟩)
def admB (w:List RatD):Bool:=w.all fun x=>vR x && (decide (0≤x.num∧x.num≤1000) && decide (x.den≤1000))
theorem v11:vR ⟨1,1⟩=true:=by decide +kernel
theorem cov_out {m n:Nat} {p:Nat→Nat→Bool} {w:List RatD} (h:covB m n p w=true) {v:Nat} (hv:v<m):1≤sig (fun i=>if p v i=true then qv (qx w i) else 0) n:=by
 have:=List.all_eq_true.1 h v (List.mem_range.2 hv)
 split at this
 ·cases this
 ·rename_i s hs
  obtain ⟨h1,h2⟩:=sumF_lsum hs
  rw [selB_sum] at h2
  rw [← h2,← qv01.2]
  refine (cmpQ_ge h1 v11).1 ?_
  simpa using this
structure CoverLp (m n:Nat) (p:Nat→Nat→Bool) (A:List (List RatD)) (B C:List RatD):Prop where
 m1:1≤m∧m≤5
 n1:1≤n∧n≤5
 al:A.length=m
 ar:∀ v,v<m→(mx A v).length=n∧∀ i,i<n→qx (mx A v) i=⟨if p v i=true then 1 else 0,1⟩
 b:B=List.replicate m ⟨1,1⟩
 c:C=List.replicate n ⟨1,1⟩
 occ:∀ v,v<m→∃ i,i<n∧p v i=true
theorem qx_rep {n i:Nat} (h:i<n) (x:RatD):qx (List.replicate n x) i=x:=by simp [qx,List.getD,h]
theorem n15_yes {n:Nat} (h:1≤n∧n≤5):n15 n=true:=decide_eq_true (by omega)
section
variable {m n:Nat} {p:Nat→Nat→Bool} {A:List (List RatD)} {B C:List RatD} (h:CoverLp m n p A B C)
include h
theorem CoverLp.bl:B.length=m:=by rw [h.b];simp
theorem CoverLp.cl:C.length=n:=by rw [h.c];simp
theorem CoverLp.at01 {v i:Nat} (hv:v<m) (hi:i<n):S01 (qx (mx A v) i):=by
 rw [(h.ar v hv).2 i hi]
 split
 ·exact .inr rfl
 ·exact .inl rfl
theorem CoverLp.atv {v i:Nat} (hv:v<m) (hi:i<n):vM A v i=if p v i=true then 1 else 0:=by
 unfold vM
 rw [(h.ar v hv).2 i hi]
 split
 ·exact qv01.2
 ·exact qv01.1
theorem CoverLp.bq {i:Nat} (hi:i<m):qx B i=⟨1,1⟩:=by rw [h.b];exact qx_rep hi _
theorem CoverLp.cq {i:Nat} (hi:i<n):qx C i=⟨1,1⟩:=by rw [h.c];exact qx_rep hi _
theorem CoverLp.lp:lpV A B C=true:=by
 simp only [lpV,Bool.and_eq_true]
 rw [h.bl,h.cl]
 refine ⟨n15_yes h.n1,n15_yes h.m1,?_,vL_yes fun j hj=>?_,vL_yes fun j hj=>?_⟩
 ·simp only [matOK,Bool.and_eq_true]
  refine ⟨decide_eq_true h.al,matOK_rows fun j hj=>?_⟩
  have hj':j<m:=by rw [← h.al];exact hj
  simp only [rowV,Bool.and_eq_true]
  refine ⟨decide_eq_true (h.ar j hj').1,vL_yes fun i hi=>?_⟩
  rw [(h.ar j hj').1] at hi
  exact (h.at01 hj' hi).s3.1
 ·rw [h.bl] at hj;rw [h.bq hj];exact v11
 ·rw [h.cl] at hj;rw [h.cq hj];exact v11
theorem CoverLp.rowsum {v:Nat} (hv:v<m) (x:Nat→Rat):sig (fun i=>vM A v i*x i) n=sig (fun i=>if p v i=true then x i else 0) n:=sig_congr fun i hi=>by
 rw [h.atv hv hi];split <;> grind
theorem CoverLp.mxe:mxF (trQ A C.length) C B=bestF B (vertF (trQ A C.length) C B (-1)) (-1):=by
 unfold mxF
 refine if_pos ⟨tr_lp h.lp,List.all_eq_true.2 fun v hv=>?_⟩
 have hv':v<m:=by rw [← h.bl];exact List.mem_range.1 hv
 obtain ⟨i,hi,hp⟩:=h.occ v hv'
 have hic:i<C.length:=by rw [h.cl];exact hi
 refine List.any_eq_true.2 ⟨i,List.mem_range.2 (by rw [trq_len];exact hic),?_⟩
 rw [Bool.and_eq_true]
 refine ⟨posL_of fun k hk=>?_,?_⟩
 ·rw [tr_row hic,List.length_map,h.al] at hk
  rw [tr_at hic (by rw [h.al];exact hk)]
  refine ⟨(h.at01 hk hi).s3.1,?_⟩
  rcases (h.at01 hk hi).v with e | e <;> rw [e] <;> decide
 ·rw [tr_at hic (by rw [h.al];exact hv'),(h.ar v hv').2 i hi]
  simp [hp]
end
theorem range_sub (m n:Nat):(List.range' m n).Sublist (List.range (m+n)):=by
 have:=List.range'_append_1 (s:=0) (m:=m) (n:=n)
 rw [List.range_eq_range',← this,Nat.zero_add]
 exact List.sublist_append_right _ _
theorem zero_vertex {A:List (List RatD)} {B C:List RatD} (hlp:lpV A B C=true) (ha:∀ i,i<B.length→∀ k,k<C.length→S01 (qx (mx A i) k)) (hb:∀ i,i<B.length→S01 (qx B i)) (hc:∀ i,i<C.length→S01 (qx C i)):∃ y∈vertF A B C (-1),∃ s,dotF C y=some s:=by
 have hS:=small01A hlp ha hb hc
 have hL:=range_sub B.length C.length
 have hl:(List.range' B.length C.length).length=C.length:=by simp
 have hmr:∀ i∈List.range' B.length C.length,i<B.length+C.length:=fun i hi=>List.mem_range.1 (hL.subset hi)
 have hmn:∀ k,k<C.length→B.length+k∈List.range' B.length C.length:=fun k hk=>by rw [List.mem_range'_1];omega
 obtain ⟨⟨hll,hlen⟩,hV,hz⟩:=chosen01 hlp ha hb hl hmr
 have hat:∀ k,k<C.length→(List.range' B.length C.length).getD k 0=B.length+k:=fun k hk=>by simp [List.getD,hk]
 have er:∀ k,k<C.length→mx ((List.range' B.length C.length).map (mx (rowsF A C.length) ·)) k=unitR C.length k:=fun k hk=>by
  rw [mx_map (by omega),hat k hk,← hS.la];exact rows_hi hk
 have eb:∀ k,k<C.length→qx ((List.range' B.length C.length).map (qx (rightF B C.length) ·)) k=⟨0,1⟩:=fun k hk=>by
  rw [qx_map (by omega),hat k hk];exact right_hi hk
 have hu:∀ (d:Nat→Rat) (k:Nat),k<C.length→sig (fun j=>qv (qx (mx ((List.range' B.length C.length).map (mx (rowsF A C.length) ·)) k) j)*d j) C.length=d k:=fun d k hk=>by
  have e:sig (fun j=>qv (qx (mx ((List.range' B.length C.length).map (mx (rowsF A C.length) ·)) k) j)*d j) C.length=sig (fun j=>(if j=k then 1 else 0)*d j) C.length:=sig_congr fun j hj=>by
   rw [er k hk,unit_at hj]
   by_cases c:k=j
   ·subst c;simp only [if_true];rw [qv01.2]
   ·rw [if_neg c,if_neg (fun h=>c h.symm),qv01.1]
  rw [e,sig_one d k 1 _ hk];grind
 have hG:=gs_start (x:=fun _=>0) (right:=(List.range' B.length C.length).map (qx (rightF B C.length) ·)) hll hlen (fun d hd j hj=>by rw [← hu d j hj];exact hd j hj) (fun i hi=>by rw [hu _ i hi,eb i hi];exact qv01.1.symm)
 obtain ⟨l,hsol,hll2,hv⟩:=solF_run (Pc C.length) (by simp) hV (pc_start hz) hG pc_swap (fun p M h hp _ h0=>pc_step hS.n5 p M h hp h0) (fun _ _ _ i hi=>⟨0,1,by omega,by omega,by grind⟩)
 have hz0:∀ k,k<C.length→((0:Int)).natAbs≤34992∧(0:Rat)=((0:Int):Rat) / ((1:Int):Rat):=fun k _=>⟨by decide,by grind⟩
 have hf:=hS.feas (.inr rfl) (x:=fun _=>0) (D:=1) (X:=fun _=>0) hll2 hv (by decide) (by decide) hz0 (fun _ _=>Rat.le_refl) (fun i hi=>by
  rw [if_neg (by decide),sig_const0 (fun k _=>by grind)]
  rcases (hb i hi).v with e | e <;> rw [e]
  ·exact Rat.le_refl
  ·decide)
 obtain ⟨y,hy,hyl,hyq⟩:=foldl_leaf (A:=A) (B:=B) (Cc:=C) (sg:=-1) hsol hf (pickF (B.length+C.length) C.length 0) [] (mem_pick _ _ 0 _ (by rw [Nat.sub_zero,← List.range_eq_range'];exact hL) hl)
 rw [← vert_pick hlp] at hy
 have hyv:∀ i,i<C.length→vR (qx y i)=true∧qv (qx y i)=0:=fun i hi=>by rw [hyq i (by omega)];exact hv i hi
 obtain ⟨s,e,_⟩:=dot_fits (a:=C) (x:=y) (D:=1) (X:=fun _=>0) hS.n5 rfl (by omega) hS.sc (fun k hk=>(hyv k hk).1) (by decide) (by decide) (fun k hk=>⟨by decide,by rw [(hyv k hk).2];exact (hz0 k hk).2⟩) C.length (Nat.le_refl _)
 exact ⟨y,hy,s,by unfold dotF;rw [if_pos (by omega)];exact e⟩
theorem CoverLp.weak2 {m n:Nat} {p:Nat→Nat→Bool} {A:List (List RatD)} {B C:List RatD} (h:CoverLp m n p A B C) {w:List RatD} (hw:∀ i,i<n→0≤qv (qx w i)) (hc:covB m n p w=true) {s:RatD} (hl:w.length=n) (hs:sumF w=some s) :
 (mxF (trQ A C.length) C B).found=true∧sumF (mxF (trQ A C.length) C B).pt=some (mxF (trQ A C.length) C B).val∧qv (mxF (trQ A C.length) C B).val≤qv s:=by
 have bl:=h.bl
 have cl:=h.cl
 have t1:∀ i,i<C.length→∀ k,k<B.length→S01 (qx (mx (trQ A C.length) i) k):=fun i hi k hk=>by
  rw [tr_at hi (by rw [h.al,← h.bl];exact hk)]
  exact h.at01 (by rw [← h.bl];exact hk) (by rw [← h.cl];exact hi)
 have t2:∀ i,i<C.length→S01 (qx C i):=fun i hi=>by rw [h.cl] at hi;rw [h.cq hi];exact .inr rfl
 have t3:∀ i,i<B.length→S01 (qx B i):=fun i hi=>by rw [h.bl] at hi;rw [h.bq hi];exact .inr rfl
 have hT:=small01A (tr_lp h.lp) t1 t2 t3
 obtain ⟨y,hy,u,hu⟩:=zero_vertex (tr_lp h.lp) t1 t2 t3
 rw [h.mxe]
 obtain ⟨g1,g2,g3,_⟩:=best_dot (.inr rfl) hy hu
 have gf:=vert_feas (tr_lp h.lp) _ g2
 obtain ⟨b1,b2,b3⟩:=feas_out (.inr rfl) gf (fun i hi=>(t2 i hi).s3.1) hT.la (fun i hi=>(hT.ra i hi).1)
 generalize bestF B (vertF (trQ A C.length) C B (-1)) (-1)=M at *
 have hy':sumF M.pt=some M.val:=by
  unfold dotF at g3
  rw [if_pos (by omega),bl,dot_ones m (fun i hi=>⟨h.bq hi,(b2 i (by omega)).1⟩)] at g3
  unfold sumF
  rw [b1,bl];exact g3
 refine ⟨g1,hy',?_⟩
 obtain ⟨_,e1⟩:=sumF_lsum hy'
 obtain ⟨_,e2⟩:=sumF_lsum hs
 rw [e1,e2]
 have hwd:=weak_dual (m:=m) (n:=n) (A:=vM A) (b:=fun _=>1) (c:=fun _=>1) (x:=fun i=>qv (qx w i)) (y:=fun v=>qv (qx M.pt v)) (fun v hv=>by rw [h.rowsum hv];exact cov_out hc hv) (fun i hi=>by
  have:=b3 i (by omega)
  rw [if_neg (by decide),h.cq hi,qv01.2,bl,sig_congr fun v hv=>by rw [tr_vM (A:=A) (B:=B) (C:=C) (by rw [h.al,bl]) (by omega) (by omega)]] at this
  exact this) hw (fun v hv=>(b2 v (by omega)).2)
 unfold lsum
 rw [b1,bl,hl]
 rw [sig_congr (f:=fun v=>1*qv (qx M.pt v)) (g:=fun v=>qv (qx M.pt v)) fun v _=>by grind,sig_congr (f:=fun v=>1*qv (qx w v)) (g:=fun v=>qv (qx w v)) fun v _=>by grind] at hwd
 exact hwd
end Go.Proofs.YtkohkoiegmcghaaDoor
namespace Go.Proofs.YtkohkoiegmcghaaDoor
set_option linter.unusedSimpArgs false
set_option linter.unusedVariables false
attribute [local go_sem ↓] reduceIte
attribute [local go_sem] Nat.reduceEqDiff Nat.reduceLT Nat.reduceAdd Nat.reduceLeDiff Nat.reduceMul Nat.reduceBEq Nat.reduceSub reduceCtorEq Int.reduceLE Int.reduceNeg Int.reduceLT
open Go.RowKit
theorem mem_ix {l:List Int} {v:Int}:v∈l↔∃ i,i<l.length∧ix l i=v:=by
 rw [List.mem_iff_getElem]
 constructor
 ·rintro ⟨i,hi,e⟩;exact ⟨i,hi,by rw [ix_lt hi];exact e⟩
 ·rintro ⟨i,hi,e⟩;exact ⟨i,hi,by rw [ix_lt hi] at e;exact e⟩
end Go.Proofs.YtkohkoiegmcghaaDoor
namespace Go.Proofs.YtkohkoiegmcghaaDoor
set_option linter.unusedSimpArgs false
set_option linter.unusedVariables false
open Go.RowKit
structure AtomD where
 nm:ByteArray
 vs:List Int
def atomR:Rep AtomD:=fun fz lo hi w cs x=>∃ a n c,cs=[.string x.nm,.slice a n c]∧x.nm.size≤9223372036854775807∧IntsA fz lo hi w a n c x.vs
theorem atomOK:RepOK atomR :=
 ⟨fun ⟨a,n,c,h1,h2,h3⟩ hk=>⟨a,n,c,h1,h2,h3.keep hk⟩,fun ⟨a,n,c,h1,h2,h3⟩ g1 g2=>⟨a,n,c,h1,h2,h3.wide g1 g2⟩,fun ⟨a,n,c,h1,h2,h3⟩=>⟨a,n,c,h1,h2,h3.read⟩⟩
abbrev AtomsA:=SlA 2 atomR
def ax (xs:List AtomD) (i:Nat):AtomD:=xs.getD i ⟨⟨#[]⟩,[]⟩
theorem ax_lt {xs:List AtomD} {i:Nat} (h:i<xs.length):ax xs i=xs[i]:=by simp [ax,h]
theorem atomsSome {fz:Bool} {lo hi:Nat} {w:World} {a:Option Addr} {n c:Nat} {xs:List AtomD} (h:AtomsA fz lo hi w a n c xs) (hn:0<n):∃ b off,a=some ⟨b,off,none⟩:=by
 obtain ⟨b,off,ha,_⟩:=h.open hn
 exact ⟨b,off,ha⟩
theorem atomsAt {fz:Bool} {lo hi:Nat} {w:World} {b off n c:Nat} {xs:List AtomD} (h:AtomsA fz lo hi w (some ⟨b,off,none⟩) n c xs) {i:Nat} (hi':i<n) :
 lo≤b∧b<hi∧(ax xs i).nm.size≤9223372036854775807∧∃ ra rn rc,w.cell? ⟨b,off+i*2,none⟩=some (.string (ax xs i).nm)∧w.cell? ⟨b,off+i*2+1,none⟩=some (.slice ra rn rc)∧IntsA fz lo hi w ra rn rc (ax xs i).vs ∧
  (fz=true→w.frozen? ⟨b,off+i*2,none⟩=false∧w.frozen? ⟨b,off+i*2+1,none⟩=false):=by
 obtain ⟨b',off',ha,hl,hb,hc⟩:=h.open (by omega)
 simp only [Option.some.injEq,Addr.mk.injEq,and_true] at ha
 obtain ⟨rfl,rfl⟩:=ha
 obtain ⟨cs,x,g1,g2,⟨ra,rn,rc,rfl,g3,g5⟩,g4⟩:=hc i hi'
 have k0:=g4 0 (by omega)
 have k1:=g4 1 (by omega)
 have hx:ax xs i=x:=by simp [ax,g2]
 rw [hx]
 exact ⟨hl,hb,g3,ra,rn,rc,by simpa using k0.1,by simpa using k1.1,g5,fun hf=>⟨by simpa using k0.2 hf,by simpa using k1.2 hf⟩⟩
abbrev atomV (s:ByteArray) (a:Option Addr) (n c:Nat):Value:=.agg #[.string s,.slice a n c]
section
variable {fz:Bool} {lo hi B lo':Nat} {w w':World} {s:ByteArray} {a:Option Addr} {n c:Nat} {xs:List Int}
end
end Go.Proofs.YtkohkoiegmcghaaDoor
