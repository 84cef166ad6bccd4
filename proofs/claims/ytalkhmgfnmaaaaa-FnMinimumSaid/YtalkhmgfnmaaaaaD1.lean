/- Lemmas for the proof of FnMinimum, part 45 of 52: no condition of their own. -/
import Derived.Test.YtalkhmgfnmaaaaaZD
namespace Go.Proofs.Ytalkhmgfnmaaaaa
set_option linter.unusedSimpArgs false
set_option linter.unusedVariables false
attribute [local go_sem ↓] reduceIte
attribute [local go_sem] Nat.reduceEqDiff Nat.reduceLT Nat.reduceAdd Nat.reduceLeDiff Nat.reduceMul Nat.reduceBEq Nat.reduceSub reduceCtorEq Int.reduceLE Int.reduceNeg Int.reduceLT
open Go.RowKit
def isByt (y:DV):Prop:=∃ l:List Int,y=.sl 1 (l.map .byte)
def isNatD (y:DV):Prop:=∃ n:Int,0≤n∧y=.int n
def isIntP (y:DV):Prop:=∃ n:Int,y=.int n
def curL:List AV:=[.any isByt,.any isNatD,.any isIntP]
@[go_sem] theorem cur_scr (fb fo:Nat→Bool):scrubs fb fo curL=curL:=rfl
@[go_sem] theorem cur_scr' (fb fo:Nat→Bool):List.map (scrub fb fo) curL=curL:=rfl
@[go_sem] theorem cur_ren (ns:List Nat) (d:Nat):renAs ns d curL=curL:=rfl
@[go_sem] theorem cur_ent:entAs curL=curL:=rfl
@[go_sem] theorem cur_out (nl:List Nat) (g:Nat):outAs nl g curL=curL:=rfl
@[go_sem] theorem cur_frz (o k:Nat) (es:List DV):frzs o k es curL=curL:=rfl
def curC (l:List Int) (i h:Int):List AV:=[.d (.sl 1 (l.map .byte)),.d (.int i),.d (.int h)]
theorem cur_le {l:List Int} {i h:Int} (hi:0≤i):ALes (curC l i h) curL :=
  .cons (.any ⟨l,rfl⟩ (fun m e=>(by cases e))) (.cons (.any ⟨i,hi,rfl⟩ (fun m e=>(by cases e))) (.cons (.any ⟨h,rfl⟩ (fun m e=>(by cases e))) .nil))
theorem afn_cur {f:FuncId} {args:List AV} {R:AV→List (List AV)→Prop} (h:∀ (l:List Int) (i h:Int),0≤i→l.length≤9223372036854775807→AFn f args [curC l i h] R):AFn f args [curL] R:=by
  refine ⟨(h [] 0 0 (by omega) (by simp)).1,fun w G vs h1 h2 h3 h4=>?_⟩
  obtain ⟨g1,g2,us,g3,g4,g5⟩:=h3 0 curL rfl
  obtain ⟨u0,us,rfl,⟨x0,⟨l,rfl⟩,_,c0⟩,u1,us,rfl,⟨x1,⟨i,hi,rfl⟩,_,c1⟩,u2,us,rfl,⟨x2,⟨z,rfl⟩,_,c2⟩,rfl⟩:=g3
  have hl:l.length≤9223372036854775807:=by
    obtain ⟨a,n,c,vs,e1,e2,e3,e4⟩:=c0
    have:=e4.small
    simp only [List.length_map] at e2
    omega
  refine (h l i z hi hl).2 w G vs h1 h2 (fun j l' hj=>?_) h4
  cases j with
  | succ j=>simp at hj
  | zero =>
    simp only [List.getElem?_cons_zero,Option.some.injEq] at hj
    subst hj
    exact ⟨g1,g2,_,⟨u0,_,rfl,⟨_,c0,.inr ⟨fun m e=>(by cases e),rfl⟩⟩,u1,_,rfl,⟨_,c1,.inr ⟨fun m e=>(by cases e),rfl⟩⟩,u2,_,rfl,⟨_,c2,.inr ⟨fun m e=>(by cases e),rfl⟩⟩,rfl⟩,g4,g5⟩
theorem obOK_le {G:Gh} {w:World} {o:Nat} {l m:List AV} (h:ALes l m) (ho:ObOK G w o l):ObOK G w o m:=by
  obtain ⟨g1,g2,us,g3,g4,g5⟩:=ho
  exact ⟨g1,g2,us,h.cv g3,g4,g5⟩
theorem afn_weak1 {f:FuncId} {args:List AV} {os:List (List AV)} {R R':AV→List (List AV)→Prop} (h:AFn f args os R) (hR:∀ r os',R r os'→∃ r' l l',os'=[l]∧ALe r r'∧ALes l l'∧R' r' [l']):AFn f args os R':=by
  refine ⟨h.1,fun w G vs h1 h2 h3 h4=>(h.2 w G vs h1 h2 h3 h4).mono ?_⟩
  rintro e w' ⟨v,r,os',G',rfl,hp⟩
  obtain ⟨r',l,l',rfl,h5,h6,h7⟩:=hR r os' hp.post
  refine ⟨_,r',[l'],G',rfl,h7,h5.cv hp.res,hp.fr,hp.st,hp.le,fun i m hm=>?_,hp.adl,hp.adn,hp.d2,hp.cs,hp.lc,hp.bf,hp.d1,hp.d3,hp.uf⟩
  cases i with
  | succ i=>simp at hm
  | zero =>
    simp only [List.getElem?_cons_zero,Option.some.injEq] at hm
    subst hm
    exact obOK_le h6 (hp.ob 0 l rfl)
theorem end1 {ty:TypeId→Option TyI} {N:Nat} {s:AS} {rv:List ResultVar} {R:AV→List (List AV)→Prop} {e:Exit} (g:Nat) {xs:List AV} {r:AV} {l:List AV} (he:e=.normal∨e=.ret) (hx:finA ty N s rv=some xs) (hob:s.ob 1000000=some l) (h:ALe (outA [1000000] g (retA xs)) r) (hR:R r [outAs [1000000] g l]):EndA ty N 1 rv R e s :=
  ⟨he,[],g,xs,[outAs [1000000] g l],hx,by simp [lentN],by simp,by simp [lentN,obsOut,hob],r,by simpa [lentN] using h,hR⟩
theorem endN {ty:TypeId→Option TyI} {N:Nat} {s:AS} {rv:List ResultVar} {R:AV→List (List AV)→Prop} {e:Exit} (o:Nat) {xs:List AV} {r:AV} {l:List AV} (he:e=.normal∨e=.ret) (hx:finA ty N s rv=some xs) (hlt:o<1000000) (hob:s.ob o=some l) (h:ALe (outA [o] 0 (retA xs)) r) (hR:R r [outAs [o] 0 l]):EndA ty N 0 rv R e s :=
  ⟨he,[o],0,xs,[outAs [o] 0 l],hx,by simp [lentN],by simpa using hlt,by simp [lentN,obsOut,hob],r,by simpa [lentN] using h,hR⟩
theorem andI_255 (x:Int):0≤andI x 255∧andI x 255≤255:=by
  unfold andI
  have h1:(BitVec.ofInt 64 x &&& BitVec.ofInt 64 255).toNat≤255:=by
    rw [BitVec.toNat_and]
    exact Nat.le_trans Nat.and_le_right (by decide)
  rw [i64_wrap_id (by unfold I64;omega)]
  omega
theorem getDB {l:List Int} {i:Nat} {x:DV} (h:i<l.length):(l.map DV.byte).getD i x=.byte (ix l i):=by simp [List.getD,ix,h]
theorem l1ByteC (l:List Int) (i h:Int) (hi:0≤i) (hl:l.length≤9223372036854775807):AFn 56 [.ptr 0 0] [curC l i h] (fun r os=>∃ x i' h',(0≤x∧x≤255)∧0≤i'∧r=.d (.int x)∧os=[curC l i' h']):=by
  refine afn_of (rv:=[.tmp 2]) tyT_ok Try.func56 rfl (by decide +kernel) Try.ntmps56 rfl (by simp) ?_
  repeat' (first | refine awp_seq ?_ | refine stp ?_ | refine blk_o (by decide) ?_ | (apply awp_condB;(focus (simp (disch:=(first | omega | (simp;omega))) only [go_sem,w64,curC];try exact rfl));first | with_reducible refine condOf_t ?_ | with_reducible refine condOf_f ?_) | (refine awp_region' tyT_ok ?_;intro K hK) | (refine awp_drawA ?_;intro K hK) | (with_reducible refine hK _ ?_;clear hK K) | (refine stq ?_;simp (disch:=(first | omega | (simp;omega))) only [go_sem,w64,curC]) | refine and_side ?_ | fail)
  generalize IntKind.i64.wrap (IntKind.i64.wrap (h*6364136223846793005)+1442695040888963407)=h'
  have hx:=andI_255 (xorI (shrI h' 33) (shrI h' 45))
  generalize andI (xorI (shrI h' 33) (shrI h' 45)) 255=x at hx
  refine awp_if (p:=i<(l.length:Nat)) (by simp (disch:=(first | omega | (simp;omega))) only [go_sem,w64]) ?_ ?_ <;> intro hc
  · have hk:i.toNat<l.length:=by omega
    have hw:IntKind.i64.wrap (i+1)=i+1:=w64 (by omega)
    repeat' (first | refine awp_seq ?_ | refine stp ?_ | refine blk_o (by decide) ?_ | (apply awp_condB;(focus (simp (disch:=(first | omega | (simp;omega))) only [go_sem,w64,getDB,hw];try exact rfl));first | with_reducible refine condOf_t ?_ | with_reducible refine condOf_f ?_) | (refine awp_region' tyT_ok ?_;intro K hK) | (refine awp_drawA ?_;intro K hK) | (with_reducible refine hK _ ?_;clear hK K) | (refine stq ?_;simp (disch:=(first | omega | (simp;omega))) only [go_sem,w64,getDB,hw]) | refine and_side ?_ | fail)
    have hy:=andI_255 (IntKind.i64.wrap (x+ix l i.toNat))
    refine end1 0 (.inr rfl) (by simp (disch:=(first | omega | (simp;omega))) only [go_sem,w64];rfl) (by simp (disch:=(first | omega | (simp;omega))) only [go_sem,w64];rfl) (r:=.d (.int (andI (IntKind.i64.wrap (x+ix l i.toNat)) 255))) (by simp (disch:=(first | omega | (simp;omega))) only [go_sem,w64];exact .refl _) ?_
    exact ⟨_,i+1,h',hy,by omega,rfl,rfl⟩
  · repeat' (first | refine awp_seq ?_ | refine stp ?_ | refine blk_o (by decide) ?_ | (apply awp_condB;(focus (simp (disch:=(first | omega | (simp;omega))) only [go_sem,w64];try exact rfl));first | with_reducible refine condOf_t ?_ | with_reducible refine condOf_f ?_) | (refine awp_region' tyT_ok ?_;intro K hK) | (refine awp_drawA ?_;intro K hK) | (with_reducible refine hK _ ?_;clear hK K) | (refine stq ?_;simp (disch:=(first | omega | (simp;omega))) only [go_sem,w64]) | refine and_side ?_ | fail)
    refine end1 0 (.inr rfl) (by simp (disch:=(first | omega | (simp;omega))) only [go_sem,w64];rfl) (by simp (disch:=(first | omega | (simp;omega))) only [go_sem,w64];rfl) (r:=.d (.int x)) (by simp (disch:=(first | omega | (simp;omega))) only [go_sem,w64];exact .refl _) ?_
    exact ⟨_,i,h',hx,hi,rfl,rfl⟩
theorem l1ByteA:AFn 56 [.ptr 0 0] [curL] (fun r os=>∃ x:Int,(0≤x∧x≤255)∧r=.d (.int x)∧os=[curL]):=by
  refine afn_cur (fun l i h hi hl=>afn_weak1 (l1ByteC l i h hi hl) ?_)
  rintro r os ⟨x,i',h',hx,hi',rfl,rfl⟩
  exact ⟨_,_,_,rfl,.refl _,cur_le hi',x,hx,rfl,rfl⟩
theorem l1BelowA (n:Int):AFn 40 [.ptr 0 0,.d (.int n)] [curL] (fun r os=>∃ x:Int,(0≤x∧(n≤0→x=0)∧(0<n→x<n))∧r=.d (.int x)∧os=[curL]):=by
  refine afn_of (rv:=[.tmp 4]) tyT_ok Try.func40 rfl (by decide +kernel) Try.ntmps40 rfl (by simp) ?_
  repeat' (first | refine awp_seq ?_ | refine stp ?_ | refine blk_o (by decide) ?_ | (apply awp_condB;(focus (simp (disch:=(first | omega | (simp;omega))) only [go_sem,w64];try exact rfl));first | with_reducible refine condOf_t ?_ | with_reducible refine condOf_f ?_) | (refine awp_region' tyT_ok ?_;intro K hK) | (refine awp_drawA ?_;intro K hK) | (with_reducible refine hK _ ?_;clear hK K) | (refine stq ?_;simp (disch:=(first | omega | (simp;omega))) only [go_sem,w64]) | refine and_side ?_ | fail)
  refine awp_if (p:=n≤0) (by simp (disch:=(first | omega | (simp;omega))) only [go_sem,w64]) ?_ ?_ <;> intro hc
  · repeat' (first | refine awp_seq ?_ | refine stp ?_ | refine blk_o (by decide) ?_ | (apply awp_condB;(focus (simp (disch:=(first | omega | (simp;omega))) only [go_sem,w64];try exact rfl));first | with_reducible refine condOf_t ?_ | with_reducible refine condOf_f ?_) | (refine awp_region' tyT_ok ?_;intro K hK) | (refine awp_drawA ?_;intro K hK) | (with_reducible refine hK _ ?_;clear hK K) | (refine stq ?_;simp (disch:=(first | omega | (simp;omega))) only [go_sem,w64]) | refine and_side ?_ | fail)
    refine end1 0 (.inr rfl) (by simp (disch:=(first | omega | (simp;omega))) only [go_sem,w64];rfl) (by simp (disch:=(first | omega | (simp;omega))) only [go_sem,w64];rfl) (r:=.d (.int 0)) (by simp (disch:=(first | omega | (simp;omega))) only [go_sem,w64];exact .refl _) ?_
    exact ⟨0,⟨by omega,fun _=>rfl,fun h=>h⟩,rfl,rfl⟩
  · repeat' (first | refine awp_seq ?_ | refine stp ?_ | refine blk_o (by decide) ?_ | (apply awp_condB;(focus (simp (disch:=(first | omega | (simp;omega))) only [go_sem,w64];try exact rfl));first | with_reducible refine condOf_t ?_ | with_reducible refine condOf_f ?_) | (refine awp_region' tyT_ok ?_;intro K hK) | (refine awp_drawA ?_;intro K hK) | (with_reducible refine hK _ ?_;clear hK K) | (refine stq ?_;simp (disch:=(first | omega | (simp;omega))) only [go_sem,w64]) | refine and_side ?_ | fail)
    refine awp_if (p:=n≤256) (by simp (disch:=(first | omega | (simp;omega))) only [go_sem,w64]) ?_ ?_ <;> intro hc2
    · have hn0:n ≠ 0:=by omega
      repeat' (first | refine awp_seq ?_ | refine stp ?_ | refine blk_o (by decide) ?_ | (apply awp_condB;(focus (simp (disch:=(first | omega | (simp;omega))) only [go_sem,w64];try exact rfl));first | with_reducible refine condOf_t ?_ | with_reducible refine condOf_f ?_) | (refine awp_region' tyT_ok ?_;intro K hK) | (refine awp_drawA ?_;intro K hK) | (with_reducible refine hK _ ?_;clear hK K) | (refine stq ?_;simp (disch:=(first | omega | (simp;omega))) only [go_sem,w64]) | refine and_side ?_ | fail)
      (refine callL 1000000 (l1ByteA) ?_)
      rintro r os ⟨x,hx,rfl,rfl⟩
      refine ⟨by decide,?_⟩
      repeat' (first | refine awp_seq ?_ | refine stp ?_ | refine blk_o (by decide) ?_ | (apply awp_condB;(focus (simp (disch:=(first | omega | (simp;omega))) only [go_sem,w64,hn0];try exact rfl));first | with_reducible refine condOf_t ?_ | with_reducible refine condOf_f ?_) | (refine awp_region' tyT_ok ?_;intro K hK) | (refine awp_drawA ?_;intro K hK) | (with_reducible refine hK _ ?_;clear hK K) | (refine stq ?_;simp (disch:=(first | omega | (simp;omega))) only [go_sem,w64,hn0]) | refine and_side ?_ | fail)
      refine end1 0 (.inr rfl) (by simp (disch:=(first | omega | (simp;omega))) only [go_sem,w64];rfl) (by simp (disch:=(first | omega | (simp;omega))) only [go_sem,w64];rfl) (r:=.d (.int (x.tmod n))) (by simp (disch:=(first | omega | (simp;omega))) only [go_sem,w64];exact .refl _) ?_
      have e:x.tmod n=x % n:=Int.tmod_eq_emod_of_nonneg hx.1
      have e1:=Int.emod_nonneg x hn0
      have e2:=Int.emod_lt_of_pos x (show 0<n by omega)
      exact ⟨_,⟨by omega,fun h=>by omega,fun _=>by omega⟩,rfl,rfl⟩
    · have hn0:n ≠ 0:=by omega
      repeat' (first | refine awp_seq ?_ | refine stp ?_ | refine blk_o (by decide) ?_ | (apply awp_condB;(focus (simp (disch:=(first | omega | (simp;omega))) only [go_sem,w64];try exact rfl));first | with_reducible refine condOf_t ?_ | with_reducible refine condOf_f ?_) | (refine awp_region' tyT_ok ?_;intro K hK) | (refine awp_drawA ?_;intro K hK) | (with_reducible refine hK _ ?_;clear hK K) | (refine stq ?_;simp (disch:=(first | omega | (simp;omega))) only [go_sem,w64]) | refine and_side ?_ | fail)
      (refine callL 1000000 (l1ByteA) ?_)
      rintro r os ⟨x,hx,rfl,rfl⟩
      refine ⟨by decide,?_⟩
      repeat' (first | refine awp_seq ?_ | refine stp ?_ | refine blk_o (by decide) ?_ | (apply awp_condB;(focus (simp (disch:=(first | omega | (simp;omega))) only [go_sem,w64];try exact rfl));first | with_reducible refine condOf_t ?_ | with_reducible refine condOf_f ?_) | (refine awp_region' tyT_ok ?_;intro K hK) | (refine awp_drawA ?_;intro K hK) | (with_reducible refine hK _ ?_;clear hK K) | (refine stq ?_;simp (disch:=(first | omega | (simp;omega))) only [go_sem,w64]) | refine and_side ?_ | fail)
      (refine callL 1000000 (l1ByteA) ?_)
      rintro r os ⟨y,hy,rfl,rfl⟩
      refine ⟨by decide,?_⟩
      repeat' (first | refine awp_seq ?_ | refine stp ?_ | refine blk_o (by decide) ?_ | (apply awp_condB;(focus (simp (disch:=(first | omega | (simp;omega))) only [go_sem,w64];try exact rfl));first | with_reducible refine condOf_t ?_ | with_reducible refine condOf_f ?_) | (refine awp_region' tyT_ok ?_;intro K hK) | (refine awp_drawA ?_;intro K hK) | (with_reducible refine hK _ ?_;clear hK K) | (refine stq ?_;simp (disch:=(first | omega | (simp;omega))) only [go_sem,w64]) | refine and_side ?_ | fail)
      (refine callL 1000000 (l1ByteA) ?_)
      rintro r os ⟨z,hz,rfl,rfl⟩
      refine ⟨by decide,?_⟩
      repeat' (first | refine awp_seq ?_ | refine stp ?_ | refine blk_o (by decide) ?_ | (apply awp_condB;(focus (simp (disch:=(first | omega | (simp;omega))) only [go_sem,w64];try exact rfl));first | with_reducible refine condOf_t ?_ | with_reducible refine condOf_f ?_) | (refine awp_region' tyT_ok ?_;intro K hK) | (refine awp_drawA ?_;intro K hK) | (with_reducible refine hK _ ?_;clear hK K) | (refine stq ?_;simp (disch:=(first | omega | (simp;omega))) only [go_sem,w64]) | refine and_side ?_ | fail)
      (refine callL 1000000 (l1ByteA) ?_)
      rintro r os ⟨v,hv,rfl,rfl⟩
      refine ⟨by decide,?_⟩
      have w1:IntKind.i64.wrap (x*16777216)=x*16777216:=w64 (by omega)
      have w2:IntKind.i64.wrap (y*65536)=y*65536:=w64 (by omega)
      have w3:IntKind.i64.wrap (x*16777216+y*65536)=x*16777216+y*65536:=w64 (by omega)
      have w4:IntKind.i64.wrap (z*256)=z*256:=w64 (by omega)
      have w5:IntKind.i64.wrap (x*16777216+y*65536+z*256)=x*16777216+y*65536+z*256:=w64 (by omega)
      have w6:IntKind.i64.wrap (x*16777216+y*65536+z*256+v)=x*16777216+y*65536+z*256+v:=w64 (by omega)
      repeat' (first | refine awp_seq ?_ | refine stp ?_ | refine blk_o (by decide) ?_ | (apply awp_condB;(focus (simp (disch:=(first | omega | (simp;omega))) only [go_sem,w64,hn0,w1,w2,w3,w4,w5,w6];try exact rfl));first | with_reducible refine condOf_t ?_ | with_reducible refine condOf_f ?_) | (refine awp_region' tyT_ok ?_;intro K hK) | (refine awp_drawA ?_;intro K hK) | (with_reducible refine hK _ ?_;clear hK K) | (refine stq ?_;simp (disch:=(first | omega | (simp;omega))) only [go_sem,w64,hn0,w1,w2,w3,w4,w5,w6]) | refine and_side ?_ | fail)
      refine end1 0 (.inr rfl) (by simp (disch:=(first | omega | (simp;omega))) only [go_sem,w64];rfl) (by simp (disch:=(first | omega | (simp;omega))) only [go_sem,w64];rfl) (r:=.d (.int ((x*16777216+y*65536+z*256+v).tmod n))) (by simp (disch:=(first | omega | (simp;omega))) only [go_sem,w64];exact .refl _) ?_
      generalize hq:x*16777216+y*65536+z*256+v=q
      have hq0:0≤q:=by omega
      have e:q.tmod n=q % n:=Int.tmod_eq_emod_of_nonneg hq0
      have e1:=Int.emod_nonneg q hn0
      have e2:=Int.emod_lt_of_pos q (show 0<n by omega)
      exact ⟨_,⟨by omega,fun h=>by omega,fun _=>by omega⟩,rfl,rfl⟩
theorem l1NewA (l:List Int) (hl:l.length≤1048576):AFn 23 [.d (.sl 1 (l.map .byte))] [] (fun r os=>r=.ptr 0 0∧os=[curL]):=by
  have h:AFn 23 [.d (.sl 1 (l.map .byte))] [] (fun r os=>∃ h,r=.ptr 0 0∧os=[curC l 0 h]):=by
    refine afn_of (rv:=[.tmp 2]) tyT_ok Try.func23 rfl (by decide +kernel) Try.ntmps23 rfl (by simp) ?_
    repeat' (first | refine awp_seq ?_ | refine stp ?_ | refine blk_o (by decide) ?_ | (apply awp_condB;(focus (simp (disch:=(first | omega | (simp;omega))) only [go_sem,w64];try exact rfl));first | with_reducible refine condOf_t ?_ | with_reducible refine condOf_f ?_) | (refine awp_region' tyT_ok ?_;intro K hK) | (refine awp_drawA ?_;intro K hK) | (with_reducible refine hK _ ?_;clear hK K) | (refine stq ?_;simp (disch:=(first | omega | (simp;omega))) only [go_sem,w64]) | refine and_side ?_ | fail)
    refine awp_loopw (fun m s=>∃ (k:Nat) (h:Int),m=l.length - k∧k≤l.length∧s=mkS [(0,.d (.sl 1 (l.map .byte))),(3,.d (.int h)),(4,.d (.int (k:Nat)))] []) ?_ ?_
    · refine ⟨_,_,?_,0,IntKind.i64.wrap (10101+(l.length:Nat)),rfl,Nat.zero_le _,rfl⟩
      exact sleA
    · rintro m s ⟨k,h,rfl,hk,rfl⟩
      have fin:∀ (h:Int),∃ h',AV.ptr 0 0=AV.ptr 0 0∧[curC l 0 h]=[curC l 0 h']:=fun h=>⟨h,rfl,rfl⟩
      by_cases h1:(k:Int)<(l.length:Nat)
      · by_cases h2:(k:Int)<4000
        · repeat' (first | refine awp_seq ?_ | refine stp ?_ | refine blk_o (by decide) ?_ | (apply awp_condB;(focus (simp (disch:=(first | omega | (simp;omega))) only [go_sem,w64,h1,h2,getDB];try exact rfl));first | with_reducible refine condOf_t ?_ | with_reducible refine condOf_f ?_) | (refine awp_region' tyT_ok ?_;intro K hK) | (refine awp_drawA ?_;intro K hK) | (with_reducible refine hK _ ?_;clear hK K) | (refine stq ?_;simp (disch:=(first | omega | (simp;omega))) only [go_sem,w64,h1,h2,getDB]) | refine and_side ?_ | fail)
          refine ⟨l.length - (k+1),_,by omega,?_,k+1,?hv,rfl,by omega,rfl⟩
          · exact sleA
        · have h2':(k:Int)<4000↔False:=iff_of_false h2 id
          repeat' (first | refine awp_seq ?_ | refine stp ?_ | refine blk_o (by decide) ?_ | (apply awp_condB;(focus (simp (disch:=(first | omega | (simp;omega))) only [go_sem,w64,h1,h2'];try exact rfl));first | with_reducible refine condOf_t ?_ | with_reducible refine condOf_f ?_) | (refine awp_region' tyT_ok ?_;intro K hK) | (refine awp_drawA ?_;intro K hK) | (with_reducible refine hK _ ?_;clear hK K) | (refine stq ?_;simp (disch:=(first | omega | (simp;omega))) only [go_sem,w64,h1,h2']) | refine and_side ?_ | fail)
          refine endN 31 (.inr rfl) (by simp (disch:=(first | omega | (simp;omega))) only [go_sem,w64];rfl) (by decide) (by simp (disch:=(first | omega | (simp;omega))) only [go_sem,w64];rfl) (r:=.ptr 0 0) (by simp (disch:=(first | omega | (simp;omega))) only [go_sem,w64];exact .refl _) ?_
          exact fin h
      · have h1':(k:Int)<(l.length:Nat)↔False:=iff_of_false h1 id
        repeat' (first | refine awp_seq ?_ | refine stp ?_ | refine blk_o (by decide) ?_ | (apply awp_condB;(focus (simp (disch:=(first | omega | (simp;omega))) only [go_sem,w64,h1'];try exact rfl));first | with_reducible refine condOf_t ?_ | with_reducible refine condOf_f ?_) | (refine awp_region' tyT_ok ?_;intro K hK) | (refine awp_drawA ?_;intro K hK) | (with_reducible refine hK _ ?_;clear hK K) | (refine stq ?_;simp (disch:=(first | omega | (simp;omega))) only [go_sem,w64,h1']) | refine and_side ?_ | fail)
        refine endN 31 (.inr rfl) (by simp (disch:=(first | omega | (simp;omega))) only [go_sem,w64];rfl) (by decide) (by simp (disch:=(first | omega | (simp;omega))) only [go_sem,w64];rfl) (r:=.ptr 0 0) (by simp (disch:=(first | omega | (simp;omega))) only [go_sem,w64];exact .refl _) ?_
        exact fin h
  refine afn_weak1 h ?_
  rintro r os ⟨h',rfl,rfl⟩
  exact ⟨_,_,_,rfl,.refl _,cur_le (by omega),rfl,rfl⟩
theorem bigA (code:List Int) (hl:code.length≤9223372036854775807):AFn 5 [.d (.sl 1 (code.map .byte))] [] (fun r os=>r=.d (.bool (decide ((1048576:Int)<(code.length:Nat))))∧os=[]):=by
  refine afn_of (rv:=[.tmp 2]) tyT_ok Try.func5 rfl (by decide +kernel) Try.ntmps5 rfl (by simp) ?_
  repeat' (first | refine awp_seq ?_ | refine stp ?_ | refine blk_o (by decide) ?_ | (apply awp_condB;(focus (simp (disch:=(first | omega | (simp;omega))) only [go_sem,w64];try exact rfl));first | with_reducible refine condOf_t ?_ | with_reducible refine condOf_f ?_) | (refine awp_region' tyT_ok ?_;intro K hK) | (refine awp_drawA ?_;intro K hK) | (with_reducible refine hK _ ?_;clear hK K) | (refine stq ?_;simp (disch:=(first | omega | (simp;omega))) only [go_sem,w64]) | refine and_side ?_ | fail)
  (refine endA (r:=.d (.bool (decide ((1048576:Int)<(code.length:Nat))))) ?_)
  exact ⟨rfl,rfl⟩
theorem l1PickIntM (xs:List Int) (h0:0<xs.length):AFn 58 [.ptr 0 0,.d (intsD xs)] [curL] (fun r os=>∃ x:Int,x∈xs∧r=.d (.int x)∧os=[curL]):=by
  refine afn_of (rv:=[.tmp 4]) tyT_ok Try.func58 rfl (by decide +kernel) Try.ntmps58 rfl (by simp) ?_
  repeat' (first | refine awp_seq ?_ | refine stp ?_ | refine blk_o (by decide) ?_ | (apply awp_condB;(focus (simp (disch:=(first | omega | (simp;omega))) only [go_sem,w64,intsD];try exact rfl));first | with_reducible refine condOf_t ?_ | with_reducible refine condOf_f ?_) | (refine awp_region' tyT_ok ?_;intro K hK) | (refine awp_drawA ?_;intro K hK) | (with_reducible refine hK _ ?_;clear hK K) | (refine stq ?_;simp (disch:=(first | omega | (simp;omega))) only [go_sem,w64,intsD]) | refine and_side ?_ | fail)
  (refine callL 1000000 (l1BelowA (xs.length:Nat)) ?_)
  rintro r os ⟨x,⟨hx0,_,hx1⟩,rfl,rfl⟩
  have hx2:=hx1 (by omega)
  have hk:x.toNat<xs.length:=by omega
  refine ⟨by decide,?_⟩
  repeat' (first | refine awp_seq ?_ | refine stp ?_ | refine blk_o (by decide) ?_ | (apply awp_condB;(focus (simp (disch:=(first | omega | (simp;omega))) only [go_sem,w64,intsD];try exact rfl));first | with_reducible refine condOf_t ?_ | with_reducible refine condOf_f ?_) | (refine awp_region' tyT_ok ?_;intro K hK) | (refine awp_drawA ?_;intro K hK) | (with_reducible refine hK _ ?_;clear hK K) | (refine stq ?_;simp (disch:=(first | omega | (simp;omega))) only [go_sem,w64,intsD]) | refine and_side ?_ | fail)
  refine end1 0 (.inr rfl) (by simp (disch:=(first | omega | (simp;omega))) only [go_sem,w64];rfl) (by simp (disch:=(first | omega | (simp;omega))) only [go_sem,w64];rfl) (r:=.d (.int (ix xs x.toNat))) (by simp (disch:=(first | omega | (simp;omega))) only [go_sem,w64];exact .refl _) ?_
  exact ⟨_,by rw [ix_lt hk];exact List.getElem_mem _,rfl,rfl⟩
end Go.Proofs.Ytalkhmgfnmaaaaa
