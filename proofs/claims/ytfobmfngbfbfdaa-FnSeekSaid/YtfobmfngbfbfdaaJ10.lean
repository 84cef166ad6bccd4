/- Lemmas for the proof of FnIteration, part 15 of 22: no condition of their own. -/
import Derived.Test.YtfobmfngbfbfdaaJ8
import Derived.ArgAppend
namespace Go.Proofs.Ytfobmfngbfbfdaa
set_option linter.unusedSimpArgs false
set_option linter.unusedVariables false
open Go.RowKit
def AppX (s t:Nat) (w w':World) (s' t':Nat):Prop :=
 w.heap.size≤w'.heap.size∧t'≤w'.heap.size∧((s'=s∧t'=t)∨w.heap.size≤s')∧(∀ lo hi,hi≤w.heap.size→(hi≤s∨t≤lo)→Keeps lo hi w w')∧(∀ B,B≤s→B≤w.heap.size→Below B w w')
theorem alloc_at {w:World} {g:Nat} {o:Obj} (h:g=w.heap.size):(w.alloc o).heap[g]? = some o:=by subst h;exact heap_alloc_new _ _
theorem intsA_of_own {base:Nat} {w:World} {a:Option Addr} {n c:Nat} {xs:List Int} (h:w.ownsRow base 3 1 (.slice a n c) n (xs.map (Value.int .i64))) (h64:∀ x∈xs,I64 x):IntsA true base w.heap.size w a n c xs:=Own.ints ⟨h,h64⟩
theorem run_append_X {s t:Nat} {w:World} (ty:TypeId) (a:Option Addr) (n c:Nat) (xs:List Int) (h:intsX s t w a n c xs) (ht:t≤w.heap.size) (g:Nat) (x:Int) (hx:I64 x) (hg:w.heap[g]? = some (.cells #[.int .i64 x] 3 (0,0))) (hb:n+1≤16777216) :
 ∃ a' c' w' s' t',(Builtin.append_ #[27,27] ty #[.slice a n c,.slice (some ⟨g,0,none⟩) 1 1]).run Try.prog w=.ok (.slice a' (n+1) c') w'∧IntsA true s' t' w' a' (n+1) c' (xs ++ [x])∧AppX s t w w' s' t':=by
 obtain ⟨i0,z,hi0,hz0,hz1,hz2,hz3⟩:=elemInt1.info
 have h64:∀ y∈xs ++ [x],I64 y:=fun y hy=>(List.mem_append.1 hy).elim (h.1.2.2.2.1 y) (fun h=>by simp at h;rw [h];exact hx)
 have hcell:w.cell? ⟨g,0,none⟩=some (.int .i64 x):=by simp [World.cell?,hg]
 have hnews:∀ (j:Nat) (u:Value),[Value.int .i64 x][j]? = some u→w.cell? ((⟨g,0,none⟩:Addr).add j)=some u:=fun j u hj=>by
  cases j with
  | zero=>simp at hj;subst hj;rw [Addr.add_lit];exact hcell
  | succ j=>simp at hj
 have hlen:=h.1.len
 by_cases hr:n<c
 ·obtain ⟨b,off,rfl,k1,k2,k3,k4⟩:=h.2 hr
  have hrun:=run_append_room_cells (P:=Try.prog) w 27 ty 3 i0 elemInt1.under hi0 b off n c ⟨g,0,none⟩ 1 1 [.int .i64 x] (by simp [hz1]) hnews (by simp [Value.oneCell']) (by omega) (fun j hj=>by
   obtain rfl:j=0:=by simpa using hj
   rw [hz1];simpa using k3) (fun j hj=>by
   obtain rfl:j=0:=by simpa using hj
   rw [hz1];simpa using k4)
  rw [hz1] at hrun
  simp only [World.setCells,Nat.mul_one] at hrun
  refine ⟨_,_,_,s,t,hrun,?_,by simp [World.setCell],by simpa [World.setCell] using ht,.inl ⟨rfl,rfl⟩,fun lo hi _ hd=>Keeps.sc (Keeps.refl _ _ _) (by omega) _,fun B hB _=>(Below.refl _ _).setCell (by simp;omega) _⟩
  refine ⟨by simp [hlen],by omega,h.1.2.2.1,h64,fun _=>⟨b,off,rfl,k1,k2,fun i hi=>?_⟩,fun h=>(by cases h)⟩
  by_cases e:i=n
  ·subst e
   refine ⟨?_,fun _=>by rw [fset_any];exact k4⟩
   rw [World.cell?_setCell_same' _ _ _ k3]
   simp [ix,hlen]
  ·have hin:i<n:=by omega
   obtain ⟨b',off',ha,_,_,hc,hf⟩:=h.1.open (by omega)
   simp only [Option.some.injEq,Addr.mk.injEq,and_true] at ha
   obtain ⟨rfl,rfl⟩:=ha
   refine ⟨?_,fun _=>by rw [fset_any];exact hf rfl i hin⟩
   rw [cset_off (by omega),hc i hin]
   simp [ix,List.getElem?_append_left (show i<xs.length by omega)]
 ·cases a with
  | none =>
   have hc0:=h.1.2.2.2.2.2 rfl
   have hn0:n=0:=by have:=h.1.2.1;omega
   subst hc0;subst hn0
   have hxs:xs=[]:=List.eq_nil_of_length_eq_zero hlen
   subst hxs
   obtain ⟨v',w',hrun,hown,hgr,_⟩:=run_append_own (P:=Try.prog) w w.heap.size 27 ty 3 i0 z 1 8 elemInt1.under hi0 hz0 hz1 hz2 hz3 (by decide) (.slice none 0 0) 0 [] (World.ownsRow_nil ..) ⟨g,0,none⟩ 1 1 [.int .i64 x] rfl hnews (by simp [Value.oneCell']) (by simp [maxLen]) (by omega) (Nat.le_refl _)
   obtain ⟨a',c',rfl⟩:∃ a' c',v'=.slice a' (0+1) c':=by
    rcases hown.2 with ⟨rfl,hz⟩ | ⟨g,cap,cur,rfl,_⟩
    ·simp at hz
    ·exact ⟨_,_,rfl⟩
   exact ⟨a',c',w',w.heap.size,w'.heap.size,hrun,intsA_of_own hown (by simpa using hx),hgr.size,Nat.le_refl _,.inr (Nat.le_refl _),fun lo hi hh _ k h1 h2=>hgr.block k (by omega) (by simp [Value.ownBlock]),fun B _ hB=>(Below.refl _ _).grown hgr hB (fun k hk=>by simp [Value.ownBlock] at hk)⟩
  | some ad =>
   have holds:∀ (j:Nat) (u:Value),(xs.map (Value.int .i64))[j]? = some u→w.cell? (ad.add j)=some u:=fun j u hj=>by
    have hjm:j<n:=by have:=(List.getElem?_eq_some_iff.1 hj).1;simpa [hlen] using this
    obtain ⟨b,off,hab,_,_,hc,_⟩:=h.1.open (by omega)
    obtain rfl:ad=⟨b,off,none⟩:=by simpa using hab
    rw [Addr.add_lit,hc j hjm,ix_lt (by omega)]
    rw [List.getElem?_map,List.getElem?_eq_getElem (by omega)] at hj
    simpa using hj
   obtain ⟨v',w',hrun,hown,hgr⟩:=run_append_arg_grows (P:=Try.prog) w 27 ty 3 i0 z 1 8 elemInt1.under hi0 hz0 hz1 hz2 hz3 (by decide) ad n c (xs.map (Value.int .i64)) (by simp [hlen]) holds ⟨g,0,none⟩ 1 1 [.int .i64 x] rfl hnews (by omega) (by unfold maxLen;omega) (by omega)
   obtain ⟨a',c',rfl⟩:∃ a' c',v'=.slice a' (n+1) c':=by
    rcases hown.2 with ⟨rfl,hz⟩ | ⟨g,cap,cur,rfl,_⟩
    ·simp at hz
    ·exact ⟨_,_,rfl⟩
   exact ⟨a',c',w',w.heap.size,w'.heap.size,hrun,intsA_of_own (by simpa using hown) h64,hgr.size,Nat.le_refl _,.inr (Nat.le_refl _),fun lo hi hh _ k h1 h2=>hgr.block k (by omega) (by simp),fun B _ hB=>(Below.refl _ _).grown hgr hB (fun k hk=>(by cases hk))⟩
theorem wpAppX {s t:Nat} {w:World} {ops:Array Oper} {rest:List Oper} {o:Oper} {a:Act} {Q:Exit→Act→World→Prop} (hgd:o.guard=none) (sl y:Operand)
 (ho:o.op=.call { callee:=.builtin .append,args:=#[sl,y],argTypes:=#[27,27] })
 (a1:Option Addr) (n c:Nat) (xs:List Int) (hs:a.eval sl=.slice a1 n c) (h:intsX s t w a1 n c xs) (ht:t≤w.heap.size) (g:Nat) (x:Int) (hy:a.eval y=.slice (some ⟨g,0,none⟩) 1 1) (hx:I64 x) (hg:w.heap[g]? = some (.cells #[.int .i64 x] 3 (0,0))) (hb:n+1≤16777216)
 (hn:∀ a' c' w' s' t',IntsA true s' t' w' a' (n+1) c' (xs ++ [x])→AppX s t w w' s' t'→wpList Try.prog ops Q rest (a.put o.dst (.slice a' (n+1) c')) w') :
 wpList Try.prog ops Q (o :: rest) a w:=by
 obtain ⟨a',c',w',s',t',hr,h2,h3⟩:=run_append_X o.type a1 n c xs h ht g x hx hg hb
 refine wpList_plain hgd fun K hK=>?_
 unfold Oper.wp
 simp [execOp,ho,resolve,invoke,builtin,hs,hy,hr,Result.andThen]
 exact hK _ _ (hn a' c' w' s' t' h2 h3)
noncomputable def opOK (ar:Int) (rows:List (List Int)) (lw gh ps:List Int):Bool:=validIt ar rows lw gh ps && (!atEndF ar rows lw gh ps && decide ((ps.length:Int)<ar))
noncomputable def opT (ok:Bool) (xs:List Int) (v:Nat):List Int:=if ok=true then xs ++ [(v:Int)] else xs
theorem op_inv {ar:Int} {rows:List (List Int)} {lw gh ps:List Int} (h:validIt ar rows lw gh ps=false):opOK ar rows lw gh ps=false:=by simp [opOK,h]
theorem op_end {ar:Int} {rows:List (List Int)} {lw gh ps:List Int} (h:atEndF ar rows lw gh ps=true):opOK ar rows lw gh ps=false:=by simp [opOK,h]
theorem op_full {ar:Int} {rows:List (List Int)} {lw gh ps:List Int} (h:¬ (ps.length:Int)<ar):opOK ar rows lw gh ps=false:=by simp [opOK,h]
theorem op_yes {ar:Int} {rows:List (List Int)} {lw gh ps:List Int} (h1:validIt ar rows lw gh ps=true) (h2:atEndF ar rows lw gh ps=false) (h:(ps.length:Int)<ar):opOK ar rows lw gh ps=true:=by simp [opOK,h1,h2,h]
theorem opT_no (xs:List Int) (v:Nat):opT false xs v=xs:=rfl
theorem opT_yes (xs:List Int) (v:Nat):opT true xs v=xs ++ [(v:Int)]:=rfl
set_option maxRecDepth 100000 in
set_option maxHeartbeats 12800000 in
theorem specOpen {fz:Bool} {lo hi:Nat} (ar:Int) (a:Option Addr) (n c:Nat) (rows:List (List Int)) (la:Option Addr) (ln lc:Nat) (lw:List Int) (ga:Option Addr) (gn gc:Nat) (gh:List Int) (pa:Option Addr) (pn pc:Nat) (ps:List Int) (w:World) (hI:IterA fz lo hi w ar a n c rows la ln lc lw ga gn gc gh pa pn pc ps) (hh:hi≤w.heap.size) (hs:szIter rows lw gh ps≤1048576) :
 Calls Try.prog 15 #[iterV ar a n c la ln lc ga gn gc pa pn pc] w (GvItB w ar rows (opT (opOK ar rows lw gh ps) lw (bnd rows ps ps.length).1) (opT (opOK ar rows lw gh ps) gh (bnd rows ps ps.length).2) (opT (opOK ar rows lw gh ps) ps (bnd rows ps ps.length).1) (opOK ar rows lw gh ps)):=by
 have HLN:=hid (And.intro hI.1.2.len (And.intro hI.2.1.len (And.intro hI.2.2.1.len hI.2.2.2.len)))
 have HI:=hid hI;have HSZ:=hid hs;clear hI hs
 go_enter Try.func15,Try.ntmps15
 go_wp2_with fail
 refine absC (fun W=>(W.cell? ⟨w.heap.size,0,none⟩=some (.int .i64 ar)∧W.cell? ⟨w.heap.size,1,none⟩=some (.slice a n c)∧W.cell? ⟨w.heap.size,2,none⟩=some (.slice la ln lc)∧W.cell? ⟨w.heap.size,3,none⟩=some (.slice ga gn gc)∧W.cell? ⟨w.heap.size,4,none⟩=some (.slice pa pn pc)∧W.cell? ⟨w.heap.size+1,0,none⟩=some (.int .i64 0)∧W.frozen? ⟨w.heap.size+1,0,none⟩=false∧W.cell? ⟨w.heap.size+1,1,none⟩=some (.slice none 0 0)∧W.frozen? ⟨w.heap.size+1,1,none⟩=false∧W.cell? ⟨w.heap.size+1,2,none⟩=some (.slice none 0 0)∧W.frozen? ⟨w.heap.size+1,2,none⟩=false∧W.cell? ⟨w.heap.size+1,3,none⟩=some (.slice none 0 0)∧W.frozen? ⟨w.heap.size+1,3,none⟩=false∧W.cell? ⟨w.heap.size+1,4,none⟩=some (.slice none 0 0)∧W.frozen? ⟨w.heap.size+1,4,none⟩=false∧w.heap.size<W.heap.size∧w.heap.size+1<W.heap.size∧w.heap.size+2≤W.heap.size∧hi≤W.heap.size)∧Hid (IterA fz lo hi W ar a n c rows la ln lc lw ga gn gc gh pa pn pc ps)∧Hid (Below w.heap.size w W)) ⟨by (refine ⟨?_,?_,?_,?_,?_,?_,?_,?_,?_,?_,?_,?_,?_,?_,?_,?_,?_,?_,?_⟩) <;> (first | with_reducible assumption | ((try simp only [sz_alloc,sz_drewN,sz_drew1,sz_set]);omega) | (simp (disch:=(first | omega | (simp only [sz_alloc,sz_drewN,sz_drew1,sz_set];omega) | (simp (disch:=(first | omega | (simp only [sz_alloc,sz_drewN,sz_drew1,sz_set];omega))) only [calloc,cdrewN,cdrew1,cset_far,cset_off, *,Option.isSome_some];done))) only [calloc,falloc,cdrewN,cdrew1,fdrewN,fdrew1,cset_far,cset_off,fset_any,World.cell?_setCell_same'];first | done | with_reducible assumption) | (go_simp;done) | (simp;done)),hid (kpIter HI.out (by (repeat (first | (with_reducible refine Keeps.sc ?_ (by omega) _) | (with_reducible refine Keeps.al ?_ (by first | ((try simp only [sz_alloc,sz_drewN,sz_drew1,sz_set]);omega) | (simp;done) | (simp;omega)) _) | (with_reducible refine Keeps.dr ?_ _)));with_reducible exact Keeps.refl _ _ _)),hid (by (repeat (first | (with_reducible refine Below.setCell ?_ (by first | ((try simp only [sz_alloc,sz_drewN,sz_drew1,sz_set]);omega) | (simp;done) | (simp;omega)) _) | (with_reducible refine Below.al ?_ (by first | ((try simp only [sz_alloc,sz_drewN,sz_drew1,sz_set]);omega) | (simp;done) | (simp;omega)) _) | (with_reducible refine below_drewN ?_ _) | (with_reducible refine below_drew1 ?_)));with_reducible exact Below.refl _ _)⟩ ?_
 rintro v1 ⟨⟨c0,c1,c2,c3,c4,c5,fc5,c6,fc6,c7,fc7,c8,fc8,c9,fc9,s0,s1,s2,s3⟩,DA,HBv1⟩
 have hm9:w.heap.size+2≤v1.heap.size:=by omega
 refine (specCopyItX ar a n c rows la ln lc lw ga gn gc gh pa pn pc ps _ DA.out (by omega) HSZ.out).mono ?_
 rintro e v2 ⟨ra,rn,rc,la1,ln1,lc1,ga1,gn1,gc1,pa1,pn1,pc1,rfl,ho,hb⟩
 have hm8:=hb.size
 have hlo:=ho.s.lens;obtain ⟨rfl,rfl,rfl,rfl⟩:n=rn∧ln=ln1∧gn=gn1∧pn=pn1:=by have h:=HLN.out;omega
 have HO:=hid ho;clear ho hlo
 have hz:=hb.size
 have hFF:v2.cell? ⟨w.heap.size,0,none⟩=some (.int .i64 ar)∧v2.cell? ⟨w.heap.size,1,none⟩=some (.slice a n c)∧v2.cell? ⟨w.heap.size,2,none⟩=some (.slice la ln lc)∧v2.cell? ⟨w.heap.size,3,none⟩=some (.slice ga gn gc)∧v2.cell? ⟨w.heap.size,4,none⟩=some (.slice pa pn pc)∧v2.cell? ⟨w.heap.size+1,0,none⟩=some (.int .i64 0)∧v2.frozen? ⟨w.heap.size+1,0,none⟩=false∧v2.cell? ⟨w.heap.size+1,1,none⟩=some (.slice none 0 0)∧v2.frozen? ⟨w.heap.size+1,1,none⟩=false∧v2.cell? ⟨w.heap.size+1,2,none⟩=some (.slice none 0 0)∧v2.frozen? ⟨w.heap.size+1,2,none⟩=false∧v2.cell? ⟨w.heap.size+1,3,none⟩=some (.slice none 0 0)∧v2.frozen? ⟨w.heap.size+1,3,none⟩=false∧v2.cell? ⟨w.heap.size+1,4,none⟩=some (.slice none 0 0)∧v2.frozen? ⟨w.heap.size+1,4,none⟩=false∧w.heap.size<v2.heap.size∧w.heap.size+1<v2.heap.size∧w.heap.size+2≤v2.heap.size∧hi≤v2.heap.size:=by (refine ⟨?_,?_,?_,?_,?_,?_,?_,?_,?_,?_,?_,?_,?_,?_,?_,?_,?_,?_,?_⟩) <;> (first | omega | (rw [(bcell hb).1 _ _ (by omega)];with_reducible assumption) | (rw [(bcell hb).2 _ _ (by omega)];with_reducible assumption))
 replace DA:Hid (IterA fz lo hi v2 ar a n c rows la ln lc lw ga gn gc gh pa pn pc ps):=hid (kpIter DA.out (Keeps.of_below hb (by omega)))
 replace HBv1:Hid (Below w.heap.size w v2):=hid (HBv1.out.trans (hb.mono (by omega)))
 clear c0 c1 c2 c3 c4 c5 fc5 c6 fc6 c7 fc7 c8 fc8 c9 fc9 s0 s1 s2 s3
 obtain ⟨c0,c1,c2,c3,c4,c5,fc5,c6,fc6,c7,fc7,c8,fc8,c9,fc9,s0,s1,s2,s3⟩:=hFF
 clear hz hb
 obtain ⟨m0,hm0⟩:∃ m,m=v1.heap.size:=⟨_,rfl⟩
 obtain ⟨m1,hm1⟩:∃ m,m=v2.heap.size:=⟨_,rfl⟩
 rw [← hm0,← hm1] at HO
 have hm2:w.heap.size+2≤m0:=by omega
 have hm4:m0≤m1:=by omega
 clear hm9 hm8
 have hm3:m1≤v2.heap.size:=by omega
 have HM1:=hid hm1;clear hm0 hm1
 go_wp2_with fail
 obtain ⟨gb,hgb⟩:∃ g,g=v2.heap.size:=⟨_,rfl⟩
 rw [← hgb]
 have hg1:m1≤gb:=by have h:=HM1.out;omega
 refine absC (fun W=>(W.cell? ⟨w.heap.size,0,none⟩=some (.int .i64 ar)∧W.cell? ⟨w.heap.size,1,none⟩=some (.slice a n c)∧W.cell? ⟨w.heap.size,2,none⟩=some (.slice la ln lc)∧W.cell? ⟨w.heap.size,3,none⟩=some (.slice ga gn gc)∧W.cell? ⟨w.heap.size,4,none⟩=some (.slice pa pn pc)∧W.cell? ⟨w.heap.size+1,0,none⟩=some (.int .i64 0)∧W.frozen? ⟨w.heap.size+1,0,none⟩=false∧W.cell? ⟨w.heap.size+1,1,none⟩=some (.slice none 0 0)∧W.frozen? ⟨w.heap.size+1,1,none⟩=false∧W.cell? ⟨w.heap.size+1,2,none⟩=some (.slice none 0 0)∧W.frozen? ⟨w.heap.size+1,2,none⟩=false∧W.cell? ⟨w.heap.size+1,3,none⟩=some (.slice none 0 0)∧W.frozen? ⟨w.heap.size+1,3,none⟩=false∧W.cell? ⟨w.heap.size+1,4,none⟩=some (.slice none 0 0)∧W.frozen? ⟨w.heap.size+1,4,none⟩=false∧W.cell? ⟨gb,0,none⟩=some (.int .i64 ar)∧W.frozen? ⟨gb,0,none⟩=false∧W.cell? ⟨gb,1,none⟩=some (.slice ra n rc)∧W.frozen? ⟨gb,1,none⟩=false∧W.cell? ⟨gb,2,none⟩=some (.slice la1 ln lc1)∧W.frozen? ⟨gb,2,none⟩=false∧W.cell? ⟨gb,3,none⟩=some (.slice ga1 gn gc1)∧W.frozen? ⟨gb,3,none⟩=false∧W.cell? ⟨gb,4,none⟩=some (.slice pa1 pn pc1)∧W.frozen? ⟨gb,4,none⟩=false∧w.heap.size<W.heap.size∧w.heap.size+1<W.heap.size∧w.heap.size+2≤W.heap.size∧hi≤W.heap.size∧m1≤W.heap.size∧gb<W.heap.size)∧Hid (IterA fz lo hi W ar a n c rows la ln lc lw ga gn gc gh pa pn pc ps)∧Hid (IterX m0 m1 W ar ra n rc rows la1 ln lc1 lw ga1 gn gc1 gh pa1 pn pc1 ps)∧Hid (Below w.heap.size w W)) ⟨by (refine ⟨?_,?_,?_,?_,?_,?_,?_,?_,?_,?_,?_,?_,?_,?_,?_,?_,?_,?_,?_,?_,?_,?_,?_,?_,?_,?_,?_,?_,?_,?_,?_⟩) <;> (first | with_reducible assumption | ((try simp only [sz_alloc,sz_drewN,sz_drew1,sz_set]);omega) | (simp (disch:=(first | omega | (simp only [sz_alloc,sz_drewN,sz_drew1,sz_set];omega) | (simp (disch:=(first | omega | (simp only [sz_alloc,sz_drewN,sz_drew1,sz_set];omega))) only [calloc,cdrewN,cdrew1,cset_far,cset_off, *,Option.isSome_some];done))) only [calloc,falloc,cdrewN,cdrew1,fdrewN,fdrew1,cset_far,cset_off,fset_any,World.cell?_setCell_same'];first | done | with_reducible assumption) | (go_simp;done) | (simp;done)),hid (kpIter DA.out (by (repeat (first | (with_reducible refine Keeps.sc ?_ (by omega) _) | (with_reducible refine Keeps.al ?_ (by first | ((try simp only [sz_alloc,sz_drewN,sz_drew1,sz_set]);omega) | (simp;done) | (simp;omega)) _) | (with_reducible refine Keeps.dr ?_ _)));with_reducible exact Keeps.refl _ _ _)),hid (kpIterX HO.out (by (repeat (first | (with_reducible refine Keeps.sc ?_ (by omega) _) | (with_reducible refine Keeps.al ?_ (by first | ((try simp only [sz_alloc,sz_drewN,sz_drew1,sz_set]);omega) | (simp;done) | (simp;omega)) _) | (with_reducible refine Keeps.dr ?_ _)));with_reducible exact Keeps.refl _ _ _)),hid (by (repeat (first | (with_reducible refine Below.setCell ?_ (by first | ((try simp only [sz_alloc,sz_drewN,sz_drew1,sz_set]);omega) | (simp;done) | (simp;omega)) _) | (with_reducible refine Below.al ?_ (by first | ((try simp only [sz_alloc,sz_drewN,sz_drew1,sz_set]);omega) | (simp;done) | (simp;omega)) _) | (with_reducible refine below_drewN ?_ _) | (with_reducible refine below_drew1 ?_)));with_reducible exact HBv1.out)⟩ ?_
 clear c0 c1 c2 c3 c4 c5 c6 c7 c8 c9 fc5 fc6 fc7 fc8 fc9 s0 s1 s2 s3 hm3 DA HO HBv1
 rintro v3 ⟨⟨c0,c1,c2,c3,c4,c5,fc5,c6,fc6,c7,fc7,c8,fc8,c9,fc9,c10,fc10,c11,fc11,c12,fc12,c13,fc13,c14,fc14,s0,s1,s2,s3,hm3,s5⟩,DA,HO,HBv3⟩
 clear hgb
 have hgb9:gb<v3.heap.size:=by omega
 refine (specValidIt ar a n c rows la ln lc lw ga gn gc gh pa pn pc ps _ DA.out (by omega)).mono ?_
 rintro e v4 ⟨rfl,hb⟩
 have hz:=hb.size
 have hFF:v4.cell? ⟨w.heap.size,0,none⟩=some (.int .i64 ar)∧v4.cell? ⟨w.heap.size,1,none⟩=some (.slice a n c)∧v4.cell? ⟨w.heap.size,2,none⟩=some (.slice la ln lc)∧v4.cell? ⟨w.heap.size,3,none⟩=some (.slice ga gn gc)∧v4.cell? ⟨w.heap.size,4,none⟩=some (.slice pa pn pc)∧v4.cell? ⟨w.heap.size+1,0,none⟩=some (.int .i64 0)∧v4.frozen? ⟨w.heap.size+1,0,none⟩=false∧v4.cell? ⟨w.heap.size+1,1,none⟩=some (.slice none 0 0)∧v4.frozen? ⟨w.heap.size+1,1,none⟩=false∧v4.cell? ⟨w.heap.size+1,2,none⟩=some (.slice none 0 0)∧v4.frozen? ⟨w.heap.size+1,2,none⟩=false∧v4.cell? ⟨w.heap.size+1,3,none⟩=some (.slice none 0 0)∧v4.frozen? ⟨w.heap.size+1,3,none⟩=false∧v4.cell? ⟨w.heap.size+1,4,none⟩=some (.slice none 0 0)∧v4.frozen? ⟨w.heap.size+1,4,none⟩=false∧v4.cell? ⟨gb,0,none⟩=some (.int .i64 ar)∧v4.frozen? ⟨gb,0,none⟩=false∧v4.cell? ⟨gb,1,none⟩=some (.slice ra n rc)∧v4.frozen? ⟨gb,1,none⟩=false∧v4.cell? ⟨gb,2,none⟩=some (.slice la1 ln lc1)∧v4.frozen? ⟨gb,2,none⟩=false∧v4.cell? ⟨gb,3,none⟩=some (.slice ga1 gn gc1)∧v4.frozen? ⟨gb,3,none⟩=false∧v4.cell? ⟨gb,4,none⟩=some (.slice pa1 pn pc1)∧v4.frozen? ⟨gb,4,none⟩=false∧w.heap.size<v4.heap.size∧w.heap.size+1<v4.heap.size∧w.heap.size+2≤v4.heap.size∧hi≤v4.heap.size∧m1≤v4.heap.size∧gb<v4.heap.size:=by (refine ⟨?_,?_,?_,?_,?_,?_,?_,?_,?_,?_,?_,?_,?_,?_,?_,?_,?_,?_,?_,?_,?_,?_,?_,?_,?_,?_,?_,?_,?_,?_,?_⟩) <;> (first | omega | (rw [(bcell hb).1 _ _ (by omega)];with_reducible assumption) | (rw [(bcell hb).2 _ _ (by omega)];with_reducible assumption))
 replace DA:Hid (IterA fz lo hi v4 ar a n c rows la ln lc lw ga gn gc gh pa pn pc ps):=hid (kpIter DA.out (Keeps.of_below hb (by omega)))
 replace HO:Hid (IterX m0 m1 v4 ar ra n rc rows la1 ln lc1 lw ga1 gn gc1 gh pa1 pn pc1 ps):=hid (kpIterX HO.out (Keeps.of_below hb (by omega)))
 replace HBv3:Hid (Below w.heap.size w v4):=hid (HBv3.out.trans (hb.mono (by omega)))
 clear c0 c1 c2 c3 c4 c5 fc5 c6 fc6 c7 fc7 c8 fc8 c9 fc9 c10 fc10 c11 fc11 c12 fc12 c13 fc13 c14 fc14 s0 s1 s2 s3 hm3 s5
 obtain ⟨c0,c1,c2,c3,c4,c5,fc5,c6,fc6,c7,fc7,c8,fc8,c9,fc9,c10,fc10,c11,fc11,c12,fc12,c13,fc13,c14,fc14,s0,s1,s2,s3,hm3,s5⟩:=hFF
 clear hz hb
 clear hgb9
 obtain ⟨vb,hvb⟩:∃ vb,validIt ar rows lw gh ps=vb:=⟨_,rfl⟩
 rw [hvb];have HVB:=hid hvb;clear hvb
 cases vb with
 | false =>
  have HF:=hid (op_inv HVB.out)
  go_wp2
  refine bodyPost_ret (v:=.tuple #[iterV ar ra n rc la1 ln lc1 ga1 gn gc1 pa1 pn pc1,.bool false]) (by simp [results,Try.results15,go_sem,c0,c1,c2,c3,c4,c5,c6,c7,c8,c9,c10,c11,c12,c13,c14]) rfl ⟨ra,n,rc,la1,ln,lc1,ga1,gn,gc1,pa1,pn,pc1,(by rw [HF.out]),?_,?_⟩
  ·rw [HF.out,opT_no,opT_no,opT_no];exact hgIterS (wdIterS (kpIterS HO.out.s (by (repeat (first | (with_reducible refine Keeps.sc ?_ (by omega) _) | (with_reducible refine Keeps.al ?_ (by first | ((try simp only [sz_alloc,sz_drewN,sz_drew1,sz_set]);omega) | (simp;done) | (simp;omega)) _) | (with_reducible refine Keeps.dr ?_ _)));with_reducible exact Keeps.refl _ _ _)) (by omega)) (by first | ((try simp only [sz_alloc,sz_drewN,sz_drew1,sz_set]);omega) | (simp;done) | (simp;omega))
  ·have hq:=HBv3.out;(repeat (first | (with_reducible refine Below.setCell ?_ (by first | ((try simp only [sz_alloc,sz_drewN,sz_drew1,sz_set]);omega) | (simp;done) | (simp;omega)) _) | (with_reducible refine below_drewN ?_ _) | (with_reducible refine below_drew1 ?_)));with_reducible exact hq
 | true =>
  have HV:=hid (validIt_out HVB.out)
  obtain ⟨hl1,hl2⟩:pn=ln∧pn=gn:=by have h:=HV.out;have h2:=HLN.out;omega
  have har:(pn:Int)≤ar:=by have h:=HV.out.2.2.2.1;have h2:=HLN.out.2.2.2;omega
  have har2:ar≤9223372036854775807:=by have h:=HO.out.1;unfold I64 at h;omega
  subst hl1 hl2
  by_cases hp:pn=0
  ·have HE:=hid (atEnd_nil (ar:=ar) (rows:=rows) (low:=lw) (high:=gh) (pos:=ps) (by have h:=HLN.out;omega))
   subst hp
   by_cases hf:(0:Int)<ar
   ·have HF:Hid (opOK ar rows lw gh ps=true):=hid (op_yes HVB.out HE.out (by have h:=HLN.out.2.2.2;rw [h];exact hf))
    have HB:Hid ((bnd rows ps ps.length).1=0∧(bnd rows ps ps.length).2=n):=hid (by have h:=HLN.out;rw [h.2.2.2];exact ⟨rfl,h.1⟩)
    have hd1:((0:Int) == ar)=false:=by simp;omega
    go_wp2_with fail
    refine (specAtEnd ar a n c rows la 0 lc lw ga 0 gc gh pa 0 pc ps _ DA.out (by omega)).mono ?_
    rintro e v5 ⟨rfl,hb⟩
    have hz:=hb.size
    have hFF:v5.cell? ⟨w.heap.size,0,none⟩=some (.int .i64 ar)∧v5.cell? ⟨w.heap.size,1,none⟩=some (.slice a n c)∧v5.cell? ⟨w.heap.size,2,none⟩=some (.slice la 0 lc)∧v5.cell? ⟨w.heap.size,3,none⟩=some (.slice ga 0 gc)∧v5.cell? ⟨w.heap.size,4,none⟩=some (.slice pa 0 pc)∧v5.cell? ⟨w.heap.size+1,0,none⟩=some (.int .i64 0)∧v5.frozen? ⟨w.heap.size+1,0,none⟩=false∧v5.cell? ⟨w.heap.size+1,1,none⟩=some (.slice none 0 0)∧v5.frozen? ⟨w.heap.size+1,1,none⟩=false∧v5.cell? ⟨w.heap.size+1,2,none⟩=some (.slice none 0 0)∧v5.frozen? ⟨w.heap.size+1,2,none⟩=false∧v5.cell? ⟨w.heap.size+1,3,none⟩=some (.slice none 0 0)∧v5.frozen? ⟨w.heap.size+1,3,none⟩=false∧v5.cell? ⟨w.heap.size+1,4,none⟩=some (.slice none 0 0)∧v5.frozen? ⟨w.heap.size+1,4,none⟩=false∧v5.cell? ⟨gb,0,none⟩=some (.int .i64 ar)∧v5.frozen? ⟨gb,0,none⟩=false∧v5.cell? ⟨gb,1,none⟩=some (.slice ra n rc)∧v5.frozen? ⟨gb,1,none⟩=false∧v5.cell? ⟨gb,2,none⟩=some (.slice la1 0 lc1)∧v5.frozen? ⟨gb,2,none⟩=false∧v5.cell? ⟨gb,3,none⟩=some (.slice ga1 0 gc1)∧v5.frozen? ⟨gb,3,none⟩=false∧v5.cell? ⟨gb,4,none⟩=some (.slice pa1 0 pc1)∧v5.frozen? ⟨gb,4,none⟩=false∧w.heap.size<v5.heap.size∧w.heap.size+1<v5.heap.size∧w.heap.size+2≤v5.heap.size∧hi≤v5.heap.size∧m1≤v5.heap.size∧gb<v5.heap.size:=by (refine ⟨?_,?_,?_,?_,?_,?_,?_,?_,?_,?_,?_,?_,?_,?_,?_,?_,?_,?_,?_,?_,?_,?_,?_,?_,?_,?_,?_,?_,?_,?_,?_⟩) <;> (first | omega | (rw [(bcell hb).1 _ _ (by omega)];with_reducible assumption) | (rw [(bcell hb).2 _ _ (by omega)];with_reducible assumption))
    replace DA:Hid (IterA fz lo hi v5 ar a n c rows la 0 lc lw ga 0 gc gh pa 0 pc ps):=hid (kpIter DA.out (Keeps.of_below hb (by omega)))
    replace HO:Hid (IterX m0 m1 v5 ar ra n rc rows la1 0 lc1 lw ga1 0 gc1 gh pa1 0 pc1 ps):=hid (kpIterX HO.out (Keeps.of_below hb (by omega)))
    replace HBv3:Hid (Below w.heap.size w v5):=hid (HBv3.out.trans (hb.mono (by omega)))
    clear c0 c1 c2 c3 c4 c5 fc5 c6 fc6 c7 fc7 c8 fc8 c9 fc9 c10 fc10 c11 fc11 c12 fc12 c13 fc13 c14 fc14 s0 s1 s2 s3 hm3 s5
    obtain ⟨c0,c1,c2,c3,c4,c5,fc5,c6,fc6,c7,fc7,c8,fc8,c9,fc9,c10,fc10,c11,fc11,c12,fc12,c13,fc13,c14,fc14,s0,s1,s2,s3,hm3,s5⟩:=hFF
    clear hz hb
    rw [HE.out]
    have hcp:=HO.out.s.caps;unfold maxLen at hcp
    have hbn:n≤1048576∧0≤1048576:=by have h:=HSZ.out;have h2:=HLN.out;unfold szIter rowsSz at h;omega
    obtain ⟨h64,ib0,ie0,ib1,ie1,ib2,ie2,ib3,ie3,r0,x1,x2,x3,hA⟩:=HO.out
    unfold Apart4 at hA
    have HR0:=hid r0;have HX1:=hid x1;have HX2:=hid x2;have HX3:=hid x3;have HAR:=hid h64;clear r0 x1 x2 x3 h64 HO
    go_wp2_with (at_builtin;refine halt' ?_)
    unfold Halt'
    obtain ⟨gg1,hgg1⟩:∃ g,g=v5.heap.size:=⟨_,rfl⟩
    have hgg1b:m1≤gg1∧gb<gg1:=by omega
    rw [← hgg1]
    refine absL (fun W=>(W.cell? ⟨w.heap.size,0,none⟩=some (.int .i64 ar)∧W.cell? ⟨w.heap.size,1,none⟩=some (.slice a n c)∧W.cell? ⟨w.heap.size,2,none⟩=some (.slice la 0 lc)∧W.cell? ⟨w.heap.size,3,none⟩=some (.slice ga 0 gc)∧W.cell? ⟨w.heap.size,4,none⟩=some (.slice pa 0 pc)∧W.cell? ⟨w.heap.size+1,0,none⟩=some (.int .i64 0)∧W.frozen? ⟨w.heap.size+1,0,none⟩=false∧W.cell? ⟨w.heap.size+1,1,none⟩=some (.slice none 0 0)∧W.frozen? ⟨w.heap.size+1,1,none⟩=false∧W.cell? ⟨w.heap.size+1,2,none⟩=some (.slice none 0 0)∧W.frozen? ⟨w.heap.size+1,2,none⟩=false∧W.cell? ⟨w.heap.size+1,3,none⟩=some (.slice none 0 0)∧W.frozen? ⟨w.heap.size+1,3,none⟩=false∧W.cell? ⟨w.heap.size+1,4,none⟩=some (.slice none 0 0)∧W.frozen? ⟨w.heap.size+1,4,none⟩=false∧W.cell? ⟨gb,0,none⟩=some (.int .i64 ar)∧W.frozen? ⟨gb,0,none⟩=false∧W.cell? ⟨gb,1,none⟩=some (.slice ra n rc)∧W.frozen? ⟨gb,1,none⟩=false∧W.cell? ⟨gb,2,none⟩=some (.slice la1 0 lc1)∧W.frozen? ⟨gb,2,none⟩=false∧W.cell? ⟨gb,3,none⟩=some (.slice ga1 0 gc1)∧W.frozen? ⟨gb,3,none⟩=false∧W.cell? ⟨gb,4,none⟩=some (.slice pa1 0 pc1)∧W.frozen? ⟨gb,4,none⟩=false∧w.heap.size<W.heap.size∧w.heap.size+1<W.heap.size∧w.heap.size+2≤W.heap.size∧hi≤W.heap.size∧m1≤W.heap.size∧gb<W.heap.size∧gg1<W.heap.size)∧Hid (IterA fz lo hi W ar a n c rows la 0 lc lw ga 0 gc gh pa 0 pc ps)∧Hid (RowsS ib0 ie0 W ra n rc rows)∧Hid (intsX ib1 ie1 W la1 0 lc1 lw)∧Hid (intsX ib2 ie2 W ga1 0 gc1 gh)∧Hid (intsX ib3 ie3 W pa1 0 pc1 ps)∧Hid (W.heap[gg1]? = some (.cells #[.int .i64 ((0:Nat):Int)] 3 (0,0)))∧Hid (Below w.heap.size w W)) ⟨by (refine ⟨?_,?_,?_,?_,?_,?_,?_,?_,?_,?_,?_,?_,?_,?_,?_,?_,?_,?_,?_,?_,?_,?_,?_,?_,?_,?_,?_,?_,?_,?_,?_,?_⟩) <;> (first | with_reducible assumption | ((try simp only [sz_alloc,sz_drewN,sz_drew1,sz_set]);omega) | (simp (disch:=(first | omega | (simp only [sz_alloc,sz_drewN,sz_drew1,sz_set];omega) | (simp (disch:=(first | omega | (simp only [sz_alloc,sz_drewN,sz_drew1,sz_set];omega))) only [calloc,cdrewN,cdrew1,cset_far,cset_off, *,Option.isSome_some];done))) only [calloc,falloc,cdrewN,cdrew1,fdrewN,fdrew1,cset_far,cset_off,fset_any,World.cell?_setCell_same'];first | done | with_reducible assumption) | (go_simp;done) | (simp;done)),hid (kpIter DA.out (by (repeat (first | (with_reducible refine Keeps.sc ?_ (by omega) _) | (with_reducible refine Keeps.al ?_ (by first | ((try simp only [sz_alloc,sz_drewN,sz_drew1,sz_set]);omega) | (simp;done) | (simp;omega)) _) | (with_reducible refine Keeps.dr ?_ _)));with_reducible exact Keeps.refl _ _ _)),hid (SepA.keep intsQOK HR0.out (by (repeat (first | (with_reducible refine Keeps.sc ?_ (by omega) _) | (with_reducible refine Keeps.al ?_ (by first | ((try simp only [sz_alloc,sz_drewN,sz_drew1,sz_set]);omega) | (simp;done) | (simp;omega)) _) | (with_reducible refine Keeps.dr ?_ _)));with_reducible exact Keeps.refl _ _ _)),hid (intsXOK.keep HX1.out (by (repeat (first | (with_reducible refine Keeps.sc ?_ (by omega) _) | (with_reducible refine Keeps.al ?_ (by first | ((try simp only [sz_alloc,sz_drewN,sz_drew1,sz_set]);omega) | (simp;done) | (simp;omega)) _) | (with_reducible refine Keeps.dr ?_ _)));with_reducible exact Keeps.refl _ _ _)),hid (intsXOK.keep HX2.out (by (repeat (first | (with_reducible refine Keeps.sc ?_ (by omega) _) | (with_reducible refine Keeps.al ?_ (by first | ((try simp only [sz_alloc,sz_drewN,sz_drew1,sz_set]);omega) | (simp;done) | (simp;omega)) _) | (with_reducible refine Keeps.dr ?_ _)));with_reducible exact Keeps.refl _ _ _)),hid (intsXOK.keep HX3.out (by (repeat (first | (with_reducible refine Keeps.sc ?_ (by omega) _) | (with_reducible refine Keeps.al ?_ (by first | ((try simp only [sz_alloc,sz_drewN,sz_drew1,sz_set]);omega) | (simp;done) | (simp;omega)) _) | (with_reducible refine Keeps.dr ?_ _)));with_reducible exact Keeps.refl _ _ _)),hid ((alloc_at (by (try simp only [sz_alloc,sz_drewN,sz_drew1,sz_set]);omega))),hid (by (repeat (first | (with_reducible refine Below.setCell ?_ (by first | ((try simp only [sz_alloc,sz_drewN,sz_drew1,sz_set]);omega) | (simp;done) | (simp;omega)) _) | (with_reducible refine Below.al ?_ (by first | ((try simp only [sz_alloc,sz_drewN,sz_drew1,sz_set]);omega) | (simp;done) | (simp;omega)) _) | (with_reducible refine below_drewN ?_ _) | (with_reducible refine below_drew1 ?_)));with_reducible exact HBv3.out)⟩ ?_
    clear c0 c1 c2 c3 c4 c5 c6 c7 c8 c9 c10 c11 c12 c13 c14 fc5 fc6 fc7 fc8 fc9 fc10 fc11 fc12 fc13 fc14 s0 s1 s2 s3 hm3 s5 DA HR0 HX1 HX2 HX3 HBv3
    rintro v6 ⟨⟨c0,c1,c2,c3,c4,c5,fc5,c6,fc6,c7,fc7,c8,fc8,c9,fc9,c10,fc10,c11,fc11,c12,fc12,c13,fc13,c14,fc14,s0,s1,s2,s3,hm3,s5,s6⟩,DA,HR0,HX1,HX2,HX3,HG1,HBv6⟩
    refine wpAppX (s:=ib1) (t:=ie1) rfl (.tmp 43) (.tmp 45) rfl la1 (0) lc1 lw rfl HX1.out (by omega) gg1 ((0:Nat):Int) rfl (by unfold I64;omega) HG1.out (by omega) ?_
    intro la2 lc2 v7 p1 q1 hi1 hx1
    obtain ⟨hz1,hzt1,hcs1,hk1,hbl1⟩:=hx1
    have hgp1:q1≤gb∨gb<p1:=by omega
    have hpp1:(p1=ib1∧q1=ie1)∨(m1≤p1):=by omega
    clear hcs1
    have HY1:=hid hi1;clear hi1 HX1 HG1 hgg1
    replace c0:v7.cell? ⟨w.heap.size,0,none⟩=some (.int .i64 ar):=by rw [World.cell?_of_block (w:=v6) (a:=⟨w.heap.size,0,none⟩) (hk1 (w.heap.size) (w.heap.size+1) (by omega) (by omega) _ (Nat.le_refl _) (Nat.lt_succ_self _))];exact c0
    replace c1:v7.cell? ⟨w.heap.size,1,none⟩=some (.slice a n c):=by rw [World.cell?_of_block (w:=v6) (a:=⟨w.heap.size,1,none⟩) (hk1 (w.heap.size) (w.heap.size+1) (by omega) (by omega) _ (Nat.le_refl _) (Nat.lt_succ_self _))];exact c1
    replace c2:v7.cell? ⟨w.heap.size,2,none⟩=some (.slice la 0 lc):=by rw [World.cell?_of_block (w:=v6) (a:=⟨w.heap.size,2,none⟩) (hk1 (w.heap.size) (w.heap.size+1) (by omega) (by omega) _ (Nat.le_refl _) (Nat.lt_succ_self _))];exact c2
    replace c3:v7.cell? ⟨w.heap.size,3,none⟩=some (.slice ga 0 gc):=by rw [World.cell?_of_block (w:=v6) (a:=⟨w.heap.size,3,none⟩) (hk1 (w.heap.size) (w.heap.size+1) (by omega) (by omega) _ (Nat.le_refl _) (Nat.lt_succ_self _))];exact c3
    replace c4:v7.cell? ⟨w.heap.size,4,none⟩=some (.slice pa 0 pc):=by rw [World.cell?_of_block (w:=v6) (a:=⟨w.heap.size,4,none⟩) (hk1 (w.heap.size) (w.heap.size+1) (by omega) (by omega) _ (Nat.le_refl _) (Nat.lt_succ_self _))];exact c4
    replace c5:v7.cell? ⟨w.heap.size+1,0,none⟩=some (.int .i64 0):=by rw [World.cell?_of_block (w:=v6) (a:=⟨w.heap.size+1,0,none⟩) (hk1 (w.heap.size+1) (w.heap.size+1+1) (by omega) (by omega) _ (Nat.le_refl _) (Nat.lt_succ_self _))];exact c5
    replace fc5:v7.frozen? ⟨w.heap.size+1,0,none⟩=false:=by rw [World.frozen?_of_block (w:=v6) (a:=⟨w.heap.size+1,0,none⟩) (hk1 (w.heap.size+1) (w.heap.size+1+1) (by omega) (by omega) _ (Nat.le_refl _) (Nat.lt_succ_self _))];exact fc5
    replace c6:v7.cell? ⟨w.heap.size+1,1,none⟩=some (.slice none 0 0):=by rw [World.cell?_of_block (w:=v6) (a:=⟨w.heap.size+1,1,none⟩) (hk1 (w.heap.size+1) (w.heap.size+1+1) (by omega) (by omega) _ (Nat.le_refl _) (Nat.lt_succ_self _))];exact c6
    replace fc6:v7.frozen? ⟨w.heap.size+1,1,none⟩=false:=by rw [World.frozen?_of_block (w:=v6) (a:=⟨w.heap.size+1,1,none⟩) (hk1 (w.heap.size+1) (w.heap.size+1+1) (by omega) (by omega) _ (Nat.le_refl _) (Nat.lt_succ_self _))];exact fc6
    replace c7:v7.cell? ⟨w.heap.size+1,2,none⟩=some (.slice none 0 0):=by rw [World.cell?_of_block (w:=v6) (a:=⟨w.heap.size+1,2,none⟩) (hk1 (w.heap.size+1) (w.heap.size+1+1) (by omega) (by omega) _ (Nat.le_refl _) (Nat.lt_succ_self _))];exact c7
    replace fc7:v7.frozen? ⟨w.heap.size+1,2,none⟩=false:=by rw [World.frozen?_of_block (w:=v6) (a:=⟨w.heap.size+1,2,none⟩) (hk1 (w.heap.size+1) (w.heap.size+1+1) (by omega) (by omega) _ (Nat.le_refl _) (Nat.lt_succ_self _))];exact fc7
    replace c8:v7.cell? ⟨w.heap.size+1,3,none⟩=some (.slice none 0 0):=by rw [World.cell?_of_block (w:=v6) (a:=⟨w.heap.size+1,3,none⟩) (hk1 (w.heap.size+1) (w.heap.size+1+1) (by omega) (by omega) _ (Nat.le_refl _) (Nat.lt_succ_self _))];exact c8
    replace fc8:v7.frozen? ⟨w.heap.size+1,3,none⟩=false:=by rw [World.frozen?_of_block (w:=v6) (a:=⟨w.heap.size+1,3,none⟩) (hk1 (w.heap.size+1) (w.heap.size+1+1) (by omega) (by omega) _ (Nat.le_refl _) (Nat.lt_succ_self _))];exact fc8
    replace c9:v7.cell? ⟨w.heap.size+1,4,none⟩=some (.slice none 0 0):=by rw [World.cell?_of_block (w:=v6) (a:=⟨w.heap.size+1,4,none⟩) (hk1 (w.heap.size+1) (w.heap.size+1+1) (by omega) (by omega) _ (Nat.le_refl _) (Nat.lt_succ_self _))];exact c9
    replace fc9:v7.frozen? ⟨w.heap.size+1,4,none⟩=false:=by rw [World.frozen?_of_block (w:=v6) (a:=⟨w.heap.size+1,4,none⟩) (hk1 (w.heap.size+1) (w.heap.size+1+1) (by omega) (by omega) _ (Nat.le_refl _) (Nat.lt_succ_self _))];exact fc9
    replace c10:v7.cell? ⟨gb,0,none⟩=some (.int .i64 ar):=by rw [World.cell?_of_block (w:=v6) (a:=⟨gb,0,none⟩) (hk1 (gb) (gb+1) (by omega) (by omega) _ (Nat.le_refl _) (Nat.lt_succ_self _))];exact c10
    replace fc10:v7.frozen? ⟨gb,0,none⟩=false:=by rw [World.frozen?_of_block (w:=v6) (a:=⟨gb,0,none⟩) (hk1 (gb) (gb+1) (by omega) (by omega) _ (Nat.le_refl _) (Nat.lt_succ_self _))];exact fc10
    replace c11:v7.cell? ⟨gb,1,none⟩=some (.slice ra n rc):=by rw [World.cell?_of_block (w:=v6) (a:=⟨gb,1,none⟩) (hk1 (gb) (gb+1) (by omega) (by omega) _ (Nat.le_refl _) (Nat.lt_succ_self _))];exact c11
    replace fc11:v7.frozen? ⟨gb,1,none⟩=false:=by rw [World.frozen?_of_block (w:=v6) (a:=⟨gb,1,none⟩) (hk1 (gb) (gb+1) (by omega) (by omega) _ (Nat.le_refl _) (Nat.lt_succ_self _))];exact fc11
    replace c12:v7.cell? ⟨gb,2,none⟩=some (.slice la1 0 lc1):=by rw [World.cell?_of_block (w:=v6) (a:=⟨gb,2,none⟩) (hk1 (gb) (gb+1) (by omega) (by omega) _ (Nat.le_refl _) (Nat.lt_succ_self _))];exact c12
    replace fc12:v7.frozen? ⟨gb,2,none⟩=false:=by rw [World.frozen?_of_block (w:=v6) (a:=⟨gb,2,none⟩) (hk1 (gb) (gb+1) (by omega) (by omega) _ (Nat.le_refl _) (Nat.lt_succ_self _))];exact fc12
    replace c13:v7.cell? ⟨gb,3,none⟩=some (.slice ga1 0 gc1):=by rw [World.cell?_of_block (w:=v6) (a:=⟨gb,3,none⟩) (hk1 (gb) (gb+1) (by omega) (by omega) _ (Nat.le_refl _) (Nat.lt_succ_self _))];exact c13
    replace fc13:v7.frozen? ⟨gb,3,none⟩=false:=by rw [World.frozen?_of_block (w:=v6) (a:=⟨gb,3,none⟩) (hk1 (gb) (gb+1) (by omega) (by omega) _ (Nat.le_refl _) (Nat.lt_succ_self _))];exact fc13
    replace c14:v7.cell? ⟨gb,4,none⟩=some (.slice pa1 0 pc1):=by rw [World.cell?_of_block (w:=v6) (a:=⟨gb,4,none⟩) (hk1 (gb) (gb+1) (by omega) (by omega) _ (Nat.le_refl _) (Nat.lt_succ_self _))];exact c14
    replace fc14:v7.frozen? ⟨gb,4,none⟩=false:=by rw [World.frozen?_of_block (w:=v6) (a:=⟨gb,4,none⟩) (hk1 (gb) (gb+1) (by omega) (by omega) _ (Nat.le_refl _) (Nat.lt_succ_self _))];exact fc14
    replace DA:Hid (IterA fz lo hi v7 ar a n c rows la 0 lc lw ga 0 gc gh pa 0 pc ps):=hid (kpIter DA.out (hk1 (lo) (hi) (by omega) (by omega)))
    replace HR0:Hid (RowsS ib0 ie0 v7 ra n rc rows):=hid (SepA.keep intsQOK HR0.out (hk1 (ib0) (ie0) (by omega) (by omega)))
    replace HX2:Hid (intsX ib2 ie2 v7 ga1 0 gc1 gh):=hid (intsXOK.keep HX2.out (hk1 (ib2) (ie2) (by omega) (by omega)))
    replace HX3:Hid (intsX ib3 ie3 v7 pa1 0 pc1 ps):=hid (intsXOK.keep HX3.out (hk1 (ib3) (ie3) (by omega) (by omega)))
    replace HBv6:Hid (Below w.heap.size w v7):=hid (HBv6.out.trans (hbl1 _ (by omega) (by omega)))
    replace s0:w.heap.size<v7.heap.size:=(by omega)
    replace s1:w.heap.size+1<v7.heap.size:=(by omega)
    replace s2:w.heap.size+2≤v7.heap.size:=(by omega)
    replace s3:hi≤v7.heap.size:=(by omega)
    replace hm3:m1≤v7.heap.size:=(by omega)
    replace s5:gb<v7.heap.size:=(by omega)
    replace s6:gg1<v7.heap.size:=(by omega)
    clear hk1 hbl1
    go_wp2_with (at_builtin;refine halt' ?_)
    unfold Halt'
    obtain ⟨gg2,hgg2⟩:∃ g,g=v7.heap.size:=⟨_,rfl⟩
    have hgg2b:m1≤gg2∧gb<gg2:=by omega
    try simp only [sz_set]
    rw [← hgg2]
    refine absL (fun W=>(W.cell? ⟨w.heap.size,0,none⟩=some (.int .i64 ar)∧W.cell? ⟨w.heap.size,1,none⟩=some (.slice a n c)∧W.cell? ⟨w.heap.size,2,none⟩=some (.slice la 0 lc)∧W.cell? ⟨w.heap.size,3,none⟩=some (.slice ga 0 gc)∧W.cell? ⟨w.heap.size,4,none⟩=some (.slice pa 0 pc)∧W.cell? ⟨w.heap.size+1,0,none⟩=some (.int .i64 0)∧W.frozen? ⟨w.heap.size+1,0,none⟩=false∧W.cell? ⟨w.heap.size+1,1,none⟩=some (.slice none 0 0)∧W.frozen? ⟨w.heap.size+1,1,none⟩=false∧W.cell? ⟨w.heap.size+1,2,none⟩=some (.slice none 0 0)∧W.frozen? ⟨w.heap.size+1,2,none⟩=false∧W.cell? ⟨w.heap.size+1,3,none⟩=some (.slice none 0 0)∧W.frozen? ⟨w.heap.size+1,3,none⟩=false∧W.cell? ⟨w.heap.size+1,4,none⟩=some (.slice none 0 0)∧W.frozen? ⟨w.heap.size+1,4,none⟩=false∧W.cell? ⟨gb,0,none⟩=some (.int .i64 ar)∧W.frozen? ⟨gb,0,none⟩=false∧W.cell? ⟨gb,1,none⟩=some (.slice ra n rc)∧W.frozen? ⟨gb,1,none⟩=false∧W.cell? ⟨gb,2,none⟩=some (.slice la2 (0+1) lc2)∧W.frozen? ⟨gb,2,none⟩=false∧W.cell? ⟨gb,3,none⟩=some (.slice ga1 0 gc1)∧W.frozen? ⟨gb,3,none⟩=false∧W.cell? ⟨gb,4,none⟩=some (.slice pa1 0 pc1)∧W.frozen? ⟨gb,4,none⟩=false∧w.heap.size<W.heap.size∧w.heap.size+1<W.heap.size∧w.heap.size+2≤W.heap.size∧hi≤W.heap.size∧m1≤W.heap.size∧gb<W.heap.size∧q1≤W.heap.size∧gg2<W.heap.size)∧Hid (IterA fz lo hi W ar a n c rows la 0 lc lw ga 0 gc gh pa 0 pc ps)∧Hid (RowsS ib0 ie0 W ra n rc rows)∧Hid (intsX ib2 ie2 W ga1 0 gc1 gh)∧Hid (intsX ib3 ie3 W pa1 0 pc1 ps)∧Hid (IntsA true p1 q1 W la2 (0+1) lc2 (lw ++ [((0:Nat):Int)]))∧Hid (W.heap[gg2]? = some (.cells #[.int .i64 ((n:Nat):Int)] 3 (0,0)))∧Hid (Below w.heap.size w W)) ⟨by (refine ⟨?_,?_,?_,?_,?_,?_,?_,?_,?_,?_,?_,?_,?_,?_,?_,?_,?_,?_,?_,?_,?_,?_,?_,?_,?_,?_,?_,?_,?_,?_,?_,?_,?_⟩) <;> (first | with_reducible assumption | ((try simp only [sz_alloc,sz_drewN,sz_drew1,sz_set]);omega) | (simp (disch:=(first | omega | (simp only [sz_alloc,sz_drewN,sz_drew1,sz_set];omega) | (simp (disch:=(first | omega | (simp only [sz_alloc,sz_drewN,sz_drew1,sz_set];omega))) only [calloc,cdrewN,cdrew1,cset_far,cset_off, *,Option.isSome_some];done))) only [calloc,falloc,cdrewN,cdrew1,fdrewN,fdrew1,cset_far,cset_off,fset_any,World.cell?_setCell_same'];first | done | with_reducible assumption) | (go_simp;done) | (simp;done)),hid (kpIter DA.out (by (repeat (first | (with_reducible refine Keeps.sc ?_ (by omega) _) | (with_reducible refine Keeps.al ?_ (by first | ((try simp only [sz_alloc,sz_drewN,sz_drew1,sz_set]);omega) | (simp;done) | (simp;omega)) _) | (with_reducible refine Keeps.dr ?_ _)));with_reducible exact Keeps.refl _ _ _)),hid (SepA.keep intsQOK HR0.out (by (repeat (first | (with_reducible refine Keeps.sc ?_ (by omega) _) | (with_reducible refine Keeps.al ?_ (by first | ((try simp only [sz_alloc,sz_drewN,sz_drew1,sz_set]);omega) | (simp;done) | (simp;omega)) _) | (with_reducible refine Keeps.dr ?_ _)));with_reducible exact Keeps.refl _ _ _)),hid (intsXOK.keep HX2.out (by (repeat (first | (with_reducible refine Keeps.sc ?_ (by omega) _) | (with_reducible refine Keeps.al ?_ (by first | ((try simp only [sz_alloc,sz_drewN,sz_drew1,sz_set]);omega) | (simp;done) | (simp;omega)) _) | (with_reducible refine Keeps.dr ?_ _)));with_reducible exact Keeps.refl _ _ _)),hid (intsXOK.keep HX3.out (by (repeat (first | (with_reducible refine Keeps.sc ?_ (by omega) _) | (with_reducible refine Keeps.al ?_ (by first | ((try simp only [sz_alloc,sz_drewN,sz_drew1,sz_set]);omega) | (simp;done) | (simp;omega)) _) | (with_reducible refine Keeps.dr ?_ _)));with_reducible exact Keeps.refl _ _ _)),hid (IntsA.keep HY1.out (by (repeat (first | (with_reducible refine Keeps.sc ?_ (by omega) _) | (with_reducible refine Keeps.al ?_ (by first | ((try simp only [sz_alloc,sz_drewN,sz_drew1,sz_set]);omega) | (simp;done) | (simp;omega)) _) | (with_reducible refine Keeps.dr ?_ _)));with_reducible exact Keeps.refl _ _ _)),hid ((alloc_at (by (try simp only [sz_alloc,sz_drewN,sz_drew1,sz_set]);omega))),hid (by (repeat (first | (with_reducible refine Below.setCell ?_ (by first | ((try simp only [sz_alloc,sz_drewN,sz_drew1,sz_set]);omega) | (simp;done) | (simp;omega)) _) | (with_reducible refine Below.al ?_ (by first | ((try simp only [sz_alloc,sz_drewN,sz_drew1,sz_set]);omega) | (simp;done) | (simp;omega)) _) | (with_reducible refine below_drewN ?_ _) | (with_reducible refine below_drew1 ?_)));with_reducible exact HBv6.out)⟩ ?_
    clear c0 c1 c2 c3 c4 c5 c6 c7 c8 c9 c10 c11 c12 c13 c14 fc5 fc6 fc7 fc8 fc9 fc10 fc11 fc12 fc13 fc14 s0 s1 s2 s3 hm3 s5 hzt1 DA HR0 HX2 HX3 HY1 HBv6
    rintro v8 ⟨⟨c0,c1,c2,c3,c4,c5,fc5,c6,fc6,c7,fc7,c8,fc8,c9,fc9,c10,fc10,c11,fc11,c12,fc12,c13,fc13,c14,fc14,s0,s1,s2,s3,hm3,s5,hzt1,s8⟩,DA,HR0,HX2,HX3,HY1,HG2,HBv8⟩
    refine wpAppX (s:=ib2) (t:=ie2) rfl (.tmp 49) (.tmp 51) rfl ga1 (0) gc1 gh rfl HX2.out (by omega) gg2 ((n:Nat):Int) rfl (by unfold I64;omega) HG2.out (by omega) ?_
    intro ga2 gc2 v9 p2 q2 hi2 hx2
    obtain ⟨hz2,hzt2,hcs2,hk2,hbl2⟩:=hx2
    have hgp2:q2≤gb∨gb<p2:=by omega
    have hpp2:(p2=ib2∧q2=ie2)∨(m1≤p2∧q1≤p2):=by omega
    clear hcs2
    have HY2:=hid hi2;clear hi2 HX2 HG2 hgg2
    replace c0:v9.cell? ⟨w.heap.size,0,none⟩=some (.int .i64 ar):=by rw [World.cell?_of_block (w:=v8) (a:=⟨w.heap.size,0,none⟩) (hk2 (w.heap.size) (w.heap.size+1) (by omega) (by omega) _ (Nat.le_refl _) (Nat.lt_succ_self _))];exact c0
    replace c1:v9.cell? ⟨w.heap.size,1,none⟩=some (.slice a n c):=by rw [World.cell?_of_block (w:=v8) (a:=⟨w.heap.size,1,none⟩) (hk2 (w.heap.size) (w.heap.size+1) (by omega) (by omega) _ (Nat.le_refl _) (Nat.lt_succ_self _))];exact c1
    replace c2:v9.cell? ⟨w.heap.size,2,none⟩=some (.slice la 0 lc):=by rw [World.cell?_of_block (w:=v8) (a:=⟨w.heap.size,2,none⟩) (hk2 (w.heap.size) (w.heap.size+1) (by omega) (by omega) _ (Nat.le_refl _) (Nat.lt_succ_self _))];exact c2
    replace c3:v9.cell? ⟨w.heap.size,3,none⟩=some (.slice ga 0 gc):=by rw [World.cell?_of_block (w:=v8) (a:=⟨w.heap.size,3,none⟩) (hk2 (w.heap.size) (w.heap.size+1) (by omega) (by omega) _ (Nat.le_refl _) (Nat.lt_succ_self _))];exact c3
    replace c4:v9.cell? ⟨w.heap.size,4,none⟩=some (.slice pa 0 pc):=by rw [World.cell?_of_block (w:=v8) (a:=⟨w.heap.size,4,none⟩) (hk2 (w.heap.size) (w.heap.size+1) (by omega) (by omega) _ (Nat.le_refl _) (Nat.lt_succ_self _))];exact c4
    replace c5:v9.cell? ⟨w.heap.size+1,0,none⟩=some (.int .i64 0):=by rw [World.cell?_of_block (w:=v8) (a:=⟨w.heap.size+1,0,none⟩) (hk2 (w.heap.size+1) (w.heap.size+1+1) (by omega) (by omega) _ (Nat.le_refl _) (Nat.lt_succ_self _))];exact c5
    replace fc5:v9.frozen? ⟨w.heap.size+1,0,none⟩=false:=by rw [World.frozen?_of_block (w:=v8) (a:=⟨w.heap.size+1,0,none⟩) (hk2 (w.heap.size+1) (w.heap.size+1+1) (by omega) (by omega) _ (Nat.le_refl _) (Nat.lt_succ_self _))];exact fc5
    replace c6:v9.cell? ⟨w.heap.size+1,1,none⟩=some (.slice none 0 0):=by rw [World.cell?_of_block (w:=v8) (a:=⟨w.heap.size+1,1,none⟩) (hk2 (w.heap.size+1) (w.heap.size+1+1) (by omega) (by omega) _ (Nat.le_refl _) (Nat.lt_succ_self _))];exact c6
    replace fc6:v9.frozen? ⟨w.heap.size+1,1,none⟩=false:=by rw [World.frozen?_of_block (w:=v8) (a:=⟨w.heap.size+1,1,none⟩) (hk2 (w.heap.size+1) (w.heap.size+1+1) (by omega) (by omega) _ (Nat.le_refl _) (Nat.lt_succ_self _))];exact fc6
    replace c7:v9.cell? ⟨w.heap.size+1,2,none⟩=some (.slice none 0 0):=by rw [World.cell?_of_block (w:=v8) (a:=⟨w.heap.size+1,2,none⟩) (hk2 (w.heap.size+1) (w.heap.size+1+1) (by omega) (by omega) _ (Nat.le_refl _) (Nat.lt_succ_self _))];exact c7
    replace fc7:v9.frozen? ⟨w.heap.size+1,2,none⟩=false:=by rw [World.frozen?_of_block (w:=v8) (a:=⟨w.heap.size+1,2,none⟩) (hk2 (w.heap.size+1) (w.heap.size+1+1) (by omega) (by omega) _ (Nat.le_refl _) (Nat.lt_succ_self _))];exact fc7
    replace c8:v9.cell? ⟨w.heap.size+1,3,none⟩=some (.slice none 0 0):=by rw [World.cell?_of_block (w:=v8) (a:=⟨w.heap.size+1,3,none⟩) (hk2 (w.heap.size+1) (w.heap.size+1+1) (by omega) (by omega) _ (Nat.le_refl _) (Nat.lt_succ_self _))];exact c8
    replace fc8:v9.frozen? ⟨w.heap.size+1,3,none⟩=false:=by rw [World.frozen?_of_block (w:=v8) (a:=⟨w.heap.size+1,3,none⟩) (hk2 (w.heap.size+1) (w.heap.size+1+1) (by omega) (by omega) _ (Nat.le_refl _) (Nat.lt_succ_self _))];exact fc8
    replace c9:v9.cell? ⟨w.heap.size+1,4,none⟩=some (.slice none 0 0):=by rw [World.cell?_of_block (w:=v8) (a:=⟨w.heap.size+1,4,none⟩) (hk2 (w.heap.size+1) (w.heap.size+1+1) (by omega) (by omega) _ (Nat.le_refl _) (Nat.lt_succ_self _))];exact c9
    replace fc9:v9.frozen? ⟨w.heap.size+1,4,none⟩=false:=by rw [World.frozen?_of_block (w:=v8) (a:=⟨w.heap.size+1,4,none⟩) (hk2 (w.heap.size+1) (w.heap.size+1+1) (by omega) (by omega) _ (Nat.le_refl _) (Nat.lt_succ_self _))];exact fc9
    replace c10:v9.cell? ⟨gb,0,none⟩=some (.int .i64 ar):=by rw [World.cell?_of_block (w:=v8) (a:=⟨gb,0,none⟩) (hk2 (gb) (gb+1) (by omega) (by omega) _ (Nat.le_refl _) (Nat.lt_succ_self _))];exact c10
    replace fc10:v9.frozen? ⟨gb,0,none⟩=false:=by rw [World.frozen?_of_block (w:=v8) (a:=⟨gb,0,none⟩) (hk2 (gb) (gb+1) (by omega) (by omega) _ (Nat.le_refl _) (Nat.lt_succ_self _))];exact fc10
    replace c11:v9.cell? ⟨gb,1,none⟩=some (.slice ra n rc):=by rw [World.cell?_of_block (w:=v8) (a:=⟨gb,1,none⟩) (hk2 (gb) (gb+1) (by omega) (by omega) _ (Nat.le_refl _) (Nat.lt_succ_self _))];exact c11
    replace fc11:v9.frozen? ⟨gb,1,none⟩=false:=by rw [World.frozen?_of_block (w:=v8) (a:=⟨gb,1,none⟩) (hk2 (gb) (gb+1) (by omega) (by omega) _ (Nat.le_refl _) (Nat.lt_succ_self _))];exact fc11
    replace c12:v9.cell? ⟨gb,2,none⟩=some (.slice la2 (0+1) lc2):=by rw [World.cell?_of_block (w:=v8) (a:=⟨gb,2,none⟩) (hk2 (gb) (gb+1) (by omega) (by omega) _ (Nat.le_refl _) (Nat.lt_succ_self _))];exact c12
    replace fc12:v9.frozen? ⟨gb,2,none⟩=false:=by rw [World.frozen?_of_block (w:=v8) (a:=⟨gb,2,none⟩) (hk2 (gb) (gb+1) (by omega) (by omega) _ (Nat.le_refl _) (Nat.lt_succ_self _))];exact fc12
    replace c13:v9.cell? ⟨gb,3,none⟩=some (.slice ga1 0 gc1):=by rw [World.cell?_of_block (w:=v8) (a:=⟨gb,3,none⟩) (hk2 (gb) (gb+1) (by omega) (by omega) _ (Nat.le_refl _) (Nat.lt_succ_self _))];exact c13
    replace fc13:v9.frozen? ⟨gb,3,none⟩=false:=by rw [World.frozen?_of_block (w:=v8) (a:=⟨gb,3,none⟩) (hk2 (gb) (gb+1) (by omega) (by omega) _ (Nat.le_refl _) (Nat.lt_succ_self _))];exact fc13
    replace c14:v9.cell? ⟨gb,4,none⟩=some (.slice pa1 0 pc1):=by rw [World.cell?_of_block (w:=v8) (a:=⟨gb,4,none⟩) (hk2 (gb) (gb+1) (by omega) (by omega) _ (Nat.le_refl _) (Nat.lt_succ_self _))];exact c14
    replace fc14:v9.frozen? ⟨gb,4,none⟩=false:=by rw [World.frozen?_of_block (w:=v8) (a:=⟨gb,4,none⟩) (hk2 (gb) (gb+1) (by omega) (by omega) _ (Nat.le_refl _) (Nat.lt_succ_self _))];exact fc14
    replace DA:Hid (IterA fz lo hi v9 ar a n c rows la 0 lc lw ga 0 gc gh pa 0 pc ps):=hid (kpIter DA.out (hk2 (lo) (hi) (by omega) (by omega)))
    replace HR0:Hid (RowsS ib0 ie0 v9 ra n rc rows):=hid (SepA.keep intsQOK HR0.out (hk2 (ib0) (ie0) (by omega) (by omega)))
    replace HX3:Hid (intsX ib3 ie3 v9 pa1 0 pc1 ps):=hid (intsXOK.keep HX3.out (hk2 (ib3) (ie3) (by omega) (by omega)))
    replace HY1:Hid (IntsA true p1 q1 v9 la2 (0+1) lc2 (lw ++ [((0:Nat):Int)])):=hid (IntsA.keep HY1.out (hk2 (p1) (q1) (by omega) (by omega)))
    replace HBv8:Hid (Below w.heap.size w v9):=hid (HBv8.out.trans (hbl2 _ (by omega) (by omega)))
    replace s0:w.heap.size<v9.heap.size:=(by omega)
    replace s1:w.heap.size+1<v9.heap.size:=(by omega)
    replace s2:w.heap.size+2≤v9.heap.size:=(by omega)
    replace s3:hi≤v9.heap.size:=(by omega)
    replace hm3:m1≤v9.heap.size:=(by omega)
    replace s5:gb<v9.heap.size:=(by omega)
    replace hzt1:q1≤v9.heap.size:=(by omega)
    replace s8:gg2<v9.heap.size:=(by omega)
    clear hk2 hbl2
    go_wp2_with (at_builtin;refine halt' ?_)
    unfold Halt'
    obtain ⟨gg3,hgg3⟩:∃ g,g=v9.heap.size:=⟨_,rfl⟩
    have hgg3b:m1≤gg3∧gb<gg3:=by omega
    try simp only [sz_set]
    rw [← hgg3]
    refine absL (fun W=>(W.cell? ⟨w.heap.size,0,none⟩=some (.int .i64 ar)∧W.cell? ⟨w.heap.size,1,none⟩=some (.slice a n c)∧W.cell? ⟨w.heap.size,2,none⟩=some (.slice la 0 lc)∧W.cell? ⟨w.heap.size,3,none⟩=some (.slice ga 0 gc)∧W.cell? ⟨w.heap.size,4,none⟩=some (.slice pa 0 pc)∧W.cell? ⟨w.heap.size+1,0,none⟩=some (.int .i64 0)∧W.frozen? ⟨w.heap.size+1,0,none⟩=false∧W.cell? ⟨w.heap.size+1,1,none⟩=some (.slice none 0 0)∧W.frozen? ⟨w.heap.size+1,1,none⟩=false∧W.cell? ⟨w.heap.size+1,2,none⟩=some (.slice none 0 0)∧W.frozen? ⟨w.heap.size+1,2,none⟩=false∧W.cell? ⟨w.heap.size+1,3,none⟩=some (.slice none 0 0)∧W.frozen? ⟨w.heap.size+1,3,none⟩=false∧W.cell? ⟨w.heap.size+1,4,none⟩=some (.slice none 0 0)∧W.frozen? ⟨w.heap.size+1,4,none⟩=false∧W.cell? ⟨gb,0,none⟩=some (.int .i64 ar)∧W.frozen? ⟨gb,0,none⟩=false∧W.cell? ⟨gb,1,none⟩=some (.slice ra n rc)∧W.frozen? ⟨gb,1,none⟩=false∧W.cell? ⟨gb,2,none⟩=some (.slice la2 (0+1) lc2)∧W.frozen? ⟨gb,2,none⟩=false∧W.cell? ⟨gb,3,none⟩=some (.slice ga2 (0+1) gc2)∧W.frozen? ⟨gb,3,none⟩=false∧W.cell? ⟨gb,4,none⟩=some (.slice pa1 0 pc1)∧W.frozen? ⟨gb,4,none⟩=false∧w.heap.size<W.heap.size∧w.heap.size+1<W.heap.size∧w.heap.size+2≤W.heap.size∧hi≤W.heap.size∧m1≤W.heap.size∧gb<W.heap.size∧q1≤W.heap.size∧q2≤W.heap.size∧gg3<W.heap.size)∧Hid (IterA fz lo hi W ar a n c rows la 0 lc lw ga 0 gc gh pa 0 pc ps)∧Hid (RowsS ib0 ie0 W ra n rc rows)∧Hid (intsX ib3 ie3 W pa1 0 pc1 ps)∧Hid (IntsA true p1 q1 W la2 (0+1) lc2 (lw ++ [((0:Nat):Int)]))∧Hid (IntsA true p2 q2 W ga2 (0+1) gc2 (gh ++ [((n:Nat):Int)]))∧Hid (W.heap[gg3]? = some (.cells #[.int .i64 ((0:Nat):Int)] 3 (0,0)))∧Hid (Below w.heap.size w W)) ⟨by (refine ⟨?_,?_,?_,?_,?_,?_,?_,?_,?_,?_,?_,?_,?_,?_,?_,?_,?_,?_,?_,?_,?_,?_,?_,?_,?_,?_,?_,?_,?_,?_,?_,?_,?_,?_⟩) <;> (first | with_reducible assumption | ((try simp only [sz_alloc,sz_drewN,sz_drew1,sz_set]);omega) | (simp (disch:=(first | omega | (simp only [sz_alloc,sz_drewN,sz_drew1,sz_set];omega) | (simp (disch:=(first | omega | (simp only [sz_alloc,sz_drewN,sz_drew1,sz_set];omega))) only [calloc,cdrewN,cdrew1,cset_far,cset_off, *,Option.isSome_some];done))) only [calloc,falloc,cdrewN,cdrew1,fdrewN,fdrew1,cset_far,cset_off,fset_any,World.cell?_setCell_same'];first | done | with_reducible assumption) | (go_simp;done) | (simp;done)),hid (kpIter DA.out (by (repeat (first | (with_reducible refine Keeps.sc ?_ (by omega) _) | (with_reducible refine Keeps.al ?_ (by first | ((try simp only [sz_alloc,sz_drewN,sz_drew1,sz_set]);omega) | (simp;done) | (simp;omega)) _) | (with_reducible refine Keeps.dr ?_ _)));with_reducible exact Keeps.refl _ _ _)),hid (SepA.keep intsQOK HR0.out (by (repeat (first | (with_reducible refine Keeps.sc ?_ (by omega) _) | (with_reducible refine Keeps.al ?_ (by first | ((try simp only [sz_alloc,sz_drewN,sz_drew1,sz_set]);omega) | (simp;done) | (simp;omega)) _) | (with_reducible refine Keeps.dr ?_ _)));with_reducible exact Keeps.refl _ _ _)),hid (intsXOK.keep HX3.out (by (repeat (first | (with_reducible refine Keeps.sc ?_ (by omega) _) | (with_reducible refine Keeps.al ?_ (by first | ((try simp only [sz_alloc,sz_drewN,sz_drew1,sz_set]);omega) | (simp;done) | (simp;omega)) _) | (with_reducible refine Keeps.dr ?_ _)));with_reducible exact Keeps.refl _ _ _)),hid (IntsA.keep HY1.out (by (repeat (first | (with_reducible refine Keeps.sc ?_ (by omega) _) | (with_reducible refine Keeps.al ?_ (by first | ((try simp only [sz_alloc,sz_drewN,sz_drew1,sz_set]);omega) | (simp;done) | (simp;omega)) _) | (with_reducible refine Keeps.dr ?_ _)));with_reducible exact Keeps.refl _ _ _)),hid (IntsA.keep HY2.out (by (repeat (first | (with_reducible refine Keeps.sc ?_ (by omega) _) | (with_reducible refine Keeps.al ?_ (by first | ((try simp only [sz_alloc,sz_drewN,sz_drew1,sz_set]);omega) | (simp;done) | (simp;omega)) _) | (with_reducible refine Keeps.dr ?_ _)));with_reducible exact Keeps.refl _ _ _)),hid ((alloc_at (by (try simp only [sz_alloc,sz_drewN,sz_drew1,sz_set]);omega))),hid (by (repeat (first | (with_reducible refine Below.setCell ?_ (by first | ((try simp only [sz_alloc,sz_drewN,sz_drew1,sz_set]);omega) | (simp;done) | (simp;omega)) _) | (with_reducible refine Below.al ?_ (by first | ((try simp only [sz_alloc,sz_drewN,sz_drew1,sz_set]);omega) | (simp;done) | (simp;omega)) _) | (with_reducible refine below_drewN ?_ _) | (with_reducible refine below_drew1 ?_)));with_reducible exact HBv8.out)⟩ ?_
    clear c0 c1 c2 c3 c4 c5 c6 c7 c8 c9 c10 c11 c12 c13 c14 fc5 fc6 fc7 fc8 fc9 fc10 fc11 fc12 fc13 fc14 s0 s1 s2 s3 hm3 s5 hzt1 hzt2 DA HR0 HX3 HY1 HY2 HBv8
    rintro v10 ⟨⟨c0,c1,c2,c3,c4,c5,fc5,c6,fc6,c7,fc7,c8,fc8,c9,fc9,c10,fc10,c11,fc11,c12,fc12,c13,fc13,c14,fc14,s0,s1,s2,s3,hm3,s5,hzt1,hzt2,s10⟩,DA,HR0,HX3,HY1,HY2,HG3,HBv10⟩
    refine wpAppX (s:=ib3) (t:=ie3) rfl (.tmp 55) (.tmp 57) rfl pa1 (0) pc1 ps rfl HX3.out (by omega) gg3 ((0:Nat):Int) rfl (by unfold I64;omega) HG3.out (by omega) ?_
    intro pa2 pc2 v11 p3 q3 hi3 hx3
    obtain ⟨hz3,hzt3,hcs3,hk3,hbl3⟩:=hx3
    have hgp3:q3≤gb∨gb<p3:=by omega
    have hpp3:(p3=ib3∧q3=ie3)∨(m1≤p3∧q1≤p3∧q2≤p3):=by omega
    clear hcs3
    have HY3:=hid hi3;clear hi3 HX3 HG3 hgg3
    replace c0:v11.cell? ⟨w.heap.size,0,none⟩=some (.int .i64 ar):=by rw [World.cell?_of_block (w:=v10) (a:=⟨w.heap.size,0,none⟩) (hk3 (w.heap.size) (w.heap.size+1) (by omega) (by omega) _ (Nat.le_refl _) (Nat.lt_succ_self _))];exact c0
    replace c1:v11.cell? ⟨w.heap.size,1,none⟩=some (.slice a n c):=by rw [World.cell?_of_block (w:=v10) (a:=⟨w.heap.size,1,none⟩) (hk3 (w.heap.size) (w.heap.size+1) (by omega) (by omega) _ (Nat.le_refl _) (Nat.lt_succ_self _))];exact c1
    replace c2:v11.cell? ⟨w.heap.size,2,none⟩=some (.slice la 0 lc):=by rw [World.cell?_of_block (w:=v10) (a:=⟨w.heap.size,2,none⟩) (hk3 (w.heap.size) (w.heap.size+1) (by omega) (by omega) _ (Nat.le_refl _) (Nat.lt_succ_self _))];exact c2
    replace c3:v11.cell? ⟨w.heap.size,3,none⟩=some (.slice ga 0 gc):=by rw [World.cell?_of_block (w:=v10) (a:=⟨w.heap.size,3,none⟩) (hk3 (w.heap.size) (w.heap.size+1) (by omega) (by omega) _ (Nat.le_refl _) (Nat.lt_succ_self _))];exact c3
    replace c4:v11.cell? ⟨w.heap.size,4,none⟩=some (.slice pa 0 pc):=by rw [World.cell?_of_block (w:=v10) (a:=⟨w.heap.size,4,none⟩) (hk3 (w.heap.size) (w.heap.size+1) (by omega) (by omega) _ (Nat.le_refl _) (Nat.lt_succ_self _))];exact c4
    replace c5:v11.cell? ⟨w.heap.size+1,0,none⟩=some (.int .i64 0):=by rw [World.cell?_of_block (w:=v10) (a:=⟨w.heap.size+1,0,none⟩) (hk3 (w.heap.size+1) (w.heap.size+1+1) (by omega) (by omega) _ (Nat.le_refl _) (Nat.lt_succ_self _))];exact c5
    replace fc5:v11.frozen? ⟨w.heap.size+1,0,none⟩=false:=by rw [World.frozen?_of_block (w:=v10) (a:=⟨w.heap.size+1,0,none⟩) (hk3 (w.heap.size+1) (w.heap.size+1+1) (by omega) (by omega) _ (Nat.le_refl _) (Nat.lt_succ_self _))];exact fc5
    replace c6:v11.cell? ⟨w.heap.size+1,1,none⟩=some (.slice none 0 0):=by rw [World.cell?_of_block (w:=v10) (a:=⟨w.heap.size+1,1,none⟩) (hk3 (w.heap.size+1) (w.heap.size+1+1) (by omega) (by omega) _ (Nat.le_refl _) (Nat.lt_succ_self _))];exact c6
    replace fc6:v11.frozen? ⟨w.heap.size+1,1,none⟩=false:=by rw [World.frozen?_of_block (w:=v10) (a:=⟨w.heap.size+1,1,none⟩) (hk3 (w.heap.size+1) (w.heap.size+1+1) (by omega) (by omega) _ (Nat.le_refl _) (Nat.lt_succ_self _))];exact fc6
    replace c7:v11.cell? ⟨w.heap.size+1,2,none⟩=some (.slice none 0 0):=by rw [World.cell?_of_block (w:=v10) (a:=⟨w.heap.size+1,2,none⟩) (hk3 (w.heap.size+1) (w.heap.size+1+1) (by omega) (by omega) _ (Nat.le_refl _) (Nat.lt_succ_self _))];exact c7
    replace fc7:v11.frozen? ⟨w.heap.size+1,2,none⟩=false:=by rw [World.frozen?_of_block (w:=v10) (a:=⟨w.heap.size+1,2,none⟩) (hk3 (w.heap.size+1) (w.heap.size+1+1) (by omega) (by omega) _ (Nat.le_refl _) (Nat.lt_succ_self _))];exact fc7
    replace c8:v11.cell? ⟨w.heap.size+1,3,none⟩=some (.slice none 0 0):=by rw [World.cell?_of_block (w:=v10) (a:=⟨w.heap.size+1,3,none⟩) (hk3 (w.heap.size+1) (w.heap.size+1+1) (by omega) (by omega) _ (Nat.le_refl _) (Nat.lt_succ_self _))];exact c8
    replace fc8:v11.frozen? ⟨w.heap.size+1,3,none⟩=false:=by rw [World.frozen?_of_block (w:=v10) (a:=⟨w.heap.size+1,3,none⟩) (hk3 (w.heap.size+1) (w.heap.size+1+1) (by omega) (by omega) _ (Nat.le_refl _) (Nat.lt_succ_self _))];exact fc8
    replace c9:v11.cell? ⟨w.heap.size+1,4,none⟩=some (.slice none 0 0):=by rw [World.cell?_of_block (w:=v10) (a:=⟨w.heap.size+1,4,none⟩) (hk3 (w.heap.size+1) (w.heap.size+1+1) (by omega) (by omega) _ (Nat.le_refl _) (Nat.lt_succ_self _))];exact c9
    replace fc9:v11.frozen? ⟨w.heap.size+1,4,none⟩=false:=by rw [World.frozen?_of_block (w:=v10) (a:=⟨w.heap.size+1,4,none⟩) (hk3 (w.heap.size+1) (w.heap.size+1+1) (by omega) (by omega) _ (Nat.le_refl _) (Nat.lt_succ_self _))];exact fc9
    replace c10:v11.cell? ⟨gb,0,none⟩=some (.int .i64 ar):=by rw [World.cell?_of_block (w:=v10) (a:=⟨gb,0,none⟩) (hk3 (gb) (gb+1) (by omega) (by omega) _ (Nat.le_refl _) (Nat.lt_succ_self _))];exact c10
    replace fc10:v11.frozen? ⟨gb,0,none⟩=false:=by rw [World.frozen?_of_block (w:=v10) (a:=⟨gb,0,none⟩) (hk3 (gb) (gb+1) (by omega) (by omega) _ (Nat.le_refl _) (Nat.lt_succ_self _))];exact fc10
    replace c11:v11.cell? ⟨gb,1,none⟩=some (.slice ra n rc):=by rw [World.cell?_of_block (w:=v10) (a:=⟨gb,1,none⟩) (hk3 (gb) (gb+1) (by omega) (by omega) _ (Nat.le_refl _) (Nat.lt_succ_self _))];exact c11
    replace fc11:v11.frozen? ⟨gb,1,none⟩=false:=by rw [World.frozen?_of_block (w:=v10) (a:=⟨gb,1,none⟩) (hk3 (gb) (gb+1) (by omega) (by omega) _ (Nat.le_refl _) (Nat.lt_succ_self _))];exact fc11
    replace c12:v11.cell? ⟨gb,2,none⟩=some (.slice la2 (0+1) lc2):=by rw [World.cell?_of_block (w:=v10) (a:=⟨gb,2,none⟩) (hk3 (gb) (gb+1) (by omega) (by omega) _ (Nat.le_refl _) (Nat.lt_succ_self _))];exact c12
    replace fc12:v11.frozen? ⟨gb,2,none⟩=false:=by rw [World.frozen?_of_block (w:=v10) (a:=⟨gb,2,none⟩) (hk3 (gb) (gb+1) (by omega) (by omega) _ (Nat.le_refl _) (Nat.lt_succ_self _))];exact fc12
    replace c13:v11.cell? ⟨gb,3,none⟩=some (.slice ga2 (0+1) gc2):=by rw [World.cell?_of_block (w:=v10) (a:=⟨gb,3,none⟩) (hk3 (gb) (gb+1) (by omega) (by omega) _ (Nat.le_refl _) (Nat.lt_succ_self _))];exact c13
    replace fc13:v11.frozen? ⟨gb,3,none⟩=false:=by rw [World.frozen?_of_block (w:=v10) (a:=⟨gb,3,none⟩) (hk3 (gb) (gb+1) (by omega) (by omega) _ (Nat.le_refl _) (Nat.lt_succ_self _))];exact fc13
    replace c14:v11.cell? ⟨gb,4,none⟩=some (.slice pa1 0 pc1):=by rw [World.cell?_of_block (w:=v10) (a:=⟨gb,4,none⟩) (hk3 (gb) (gb+1) (by omega) (by omega) _ (Nat.le_refl _) (Nat.lt_succ_self _))];exact c14
    replace fc14:v11.frozen? ⟨gb,4,none⟩=false:=by rw [World.frozen?_of_block (w:=v10) (a:=⟨gb,4,none⟩) (hk3 (gb) (gb+1) (by omega) (by omega) _ (Nat.le_refl _) (Nat.lt_succ_self _))];exact fc14
    replace DA:Hid (IterA fz lo hi v11 ar a n c rows la 0 lc lw ga 0 gc gh pa 0 pc ps):=hid (kpIter DA.out (hk3 (lo) (hi) (by omega) (by omega)))
    replace HR0:Hid (RowsS ib0 ie0 v11 ra n rc rows):=hid (SepA.keep intsQOK HR0.out (hk3 (ib0) (ie0) (by omega) (by omega)))
    replace HY1:Hid (IntsA true p1 q1 v11 la2 (0+1) lc2 (lw ++ [((0:Nat):Int)])):=hid (IntsA.keep HY1.out (hk3 (p1) (q1) (by omega) (by omega)))
    replace HY2:Hid (IntsA true p2 q2 v11 ga2 (0+1) gc2 (gh ++ [((n:Nat):Int)])):=hid (IntsA.keep HY2.out (hk3 (p2) (q2) (by omega) (by omega)))
    replace HBv10:Hid (Below w.heap.size w v11):=hid (HBv10.out.trans (hbl3 _ (by omega) (by omega)))
    replace s0:w.heap.size<v11.heap.size:=(by omega)
    replace s1:w.heap.size+1<v11.heap.size:=(by omega)
    replace s2:w.heap.size+2≤v11.heap.size:=(by omega)
    replace s3:hi≤v11.heap.size:=(by omega)
    replace hm3:m1≤v11.heap.size:=(by omega)
    replace s5:gb<v11.heap.size:=(by omega)
    replace hzt1:q1≤v11.heap.size:=(by omega)
    replace hzt2:q2≤v11.heap.size:=(by omega)
    replace s10:gg3<v11.heap.size:=(by omega)
    clear hk3 hbl3
    go_wp2
    refine bodyPost_ret (v:=.tuple #[iterV ar ra n rc la2 (0+1) lc2 ga2 (0+1) gc2 pa2 (0+1) pc2,.bool true]) (by simp [results,Try.results15,go_sem,c0,c1,c2,c3,c4,c5,c6,c7,c8,c9,c10,c11,c12,c13,c14]) rfl ⟨ra,n,rc,la2,0+1,lc2,ga2,0+1,gc2,pa2,0+1,pc2,(by rw [HF.out]),?_,?_⟩
    ·rw [HF.out,HB.out.1,HB.out.2,opT_yes,opT_yes,opT_yes];exact hgIterS (hi:=v11.heap.size) (wdIterS (lo:=w.heap.size+2) ⟨HAR.out,ib0,ie0,p1,q1,p2,q2,p3,q3,SepA.keep intsQOK HR0.out (by (repeat (first | (with_reducible refine Keeps.sc ?_ (by omega) _) | (with_reducible refine Keeps.al ?_ (by first | ((try simp only [sz_alloc,sz_drewN,sz_drew1,sz_set]);omega) | (simp;done) | (simp;omega)) _) | (with_reducible refine Keeps.dr ?_ _)));with_reducible exact Keeps.refl _ _ _),IntsA.keep HY1.out (by (repeat (first | (with_reducible refine Keeps.sc ?_ (by omega) _) | (with_reducible refine Keeps.al ?_ (by first | ((try simp only [sz_alloc,sz_drewN,sz_drew1,sz_set]);omega) | (simp;done) | (simp;omega)) _) | (with_reducible refine Keeps.dr ?_ _)));with_reducible exact Keeps.refl _ _ _),IntsA.keep HY2.out (by (repeat (first | (with_reducible refine Keeps.sc ?_ (by omega) _) | (with_reducible refine Keeps.al ?_ (by first | ((try simp only [sz_alloc,sz_drewN,sz_drew1,sz_set]);omega) | (simp;done) | (simp;omega)) _) | (with_reducible refine Keeps.dr ?_ _)));with_reducible exact Keeps.refl _ _ _),IntsA.keep HY3.out (by (repeat (first | (with_reducible refine Keeps.sc ?_ (by omega) _) | (with_reducible refine Keeps.al ?_ (by first | ((try simp only [sz_alloc,sz_drewN,sz_drew1,sz_set]);omega) | (simp;done) | (simp;omega)) _) | (with_reducible refine Keeps.dr ?_ _)));with_reducible exact Keeps.refl _ _ _),by unfold Apart4;omega⟩ (by omega)) (by first | ((try simp only [sz_alloc,sz_drewN,sz_drew1,sz_set]);omega) | (simp;done) | (simp;omega))
    ·have hq:=HBv10.out;(repeat (first | (with_reducible refine Below.setCell ?_ (by first | ((try simp only [sz_alloc,sz_drewN,sz_drew1,sz_set]);omega) | (simp;done) | (simp;omega)) _) | (with_reducible refine below_drewN ?_ _) | (with_reducible refine below_drew1 ?_)));with_reducible exact hq
   ·have HF:=hid (op_full (ar:=ar) (rows:=rows) (lw:=lw) (gh:=gh) (ps:=ps) (by have h:=HLN.out.2.2.2;rw [h];exact hf))
    obtain rfl:ar=0:=by omega
    go_wp2
    refine bodyPost_ret (v:=.tuple #[iterV 0 ra n rc la1 0 lc1 ga1 0 gc1 pa1 0 pc1,.bool false]) (by simp [results,Try.results15,go_sem,c0,c1,c2,c3,c4,c5,c6,c7,c8,c9,c10,c11,c12,c13,c14]) rfl ⟨ra,n,rc,la1,0,lc1,ga1,0,gc1,pa1,0,pc1,(by rw [HF.out]),?_,?_⟩
    ·rw [HF.out,opT_no,opT_no,opT_no];exact hgIterS (wdIterS (kpIterS HO.out.s (by (repeat (first | (with_reducible refine Keeps.sc ?_ (by omega) _) | (with_reducible refine Keeps.al ?_ (by first | ((try simp only [sz_alloc,sz_drewN,sz_drew1,sz_set]);omega) | (simp;done) | (simp;omega)) _) | (with_reducible refine Keeps.dr ?_ _)));with_reducible exact Keeps.refl _ _ _)) (by omega)) (by first | ((try simp only [sz_alloc,sz_drewN,sz_drew1,sz_set]);omega) | (simp;done) | (simp;omega))
    ·have hq:=HBv3.out;(repeat (first | (with_reducible refine Below.setCell ?_ (by first | ((try simp only [sz_alloc,sz_drewN,sz_drew1,sz_set]);omega) | (simp;done) | (simp;omega)) _) | (with_reducible refine below_drewN ?_ _) | (with_reducible refine below_drew1 ?_)));with_reducible exact hq
  ·obtain ⟨l,hl⟩:∃ l,pn=l+1:=⟨pn - 1,by omega⟩
   subst hl;clear hp
   have hcp0:=HO.out.s.caps;unfold maxLen at hcp0;obtain ⟨⟨k1,k2⟩,⟨k3,k4⟩,⟨k5,k6⟩⟩:=hcp0
   have hw1:IntKind.i64.wrap ((l:Int)+1 - 1)=l:=by rw [show (l:Int)+1 - 1=l by omega];exact IntWalk.i64_in _ (by omega)
   obtain ⟨eb,heb⟩:∃ eb,atEndF ar rows lw gh ps=eb:=⟨_,rfl⟩
   have HE:=hid heb;clear heb
   by_cases hf:(l:Int)+1<ar
   ·have hd1:(((l:Int)+1) == ar)=false:=by simp;omega
    go_wp2_with fail
    refine (specAtEnd ar a n c rows la (l+1) lc lw ga (l+1) gc gh pa (l+1) pc ps _ DA.out (by omega)).mono ?_
    rintro e v5 ⟨rfl,hb⟩
    have hz:=hb.size
    have hFF:v5.cell? ⟨w.heap.size,0,none⟩=some (.int .i64 ar)∧v5.cell? ⟨w.heap.size,1,none⟩=some (.slice a n c)∧v5.cell? ⟨w.heap.size,2,none⟩=some (.slice la (l+1) lc)∧v5.cell? ⟨w.heap.size,3,none⟩=some (.slice ga (l+1) gc)∧v5.cell? ⟨w.heap.size,4,none⟩=some (.slice pa (l+1) pc)∧v5.cell? ⟨w.heap.size+1,0,none⟩=some (.int .i64 0)∧v5.frozen? ⟨w.heap.size+1,0,none⟩=false∧v5.cell? ⟨w.heap.size+1,1,none⟩=some (.slice none 0 0)∧v5.frozen? ⟨w.heap.size+1,1,none⟩=false∧v5.cell? ⟨w.heap.size+1,2,none⟩=some (.slice none 0 0)∧v5.frozen? ⟨w.heap.size+1,2,none⟩=false∧v5.cell? ⟨w.heap.size+1,3,none⟩=some (.slice none 0 0)∧v5.frozen? ⟨w.heap.size+1,3,none⟩=false∧v5.cell? ⟨w.heap.size+1,4,none⟩=some (.slice none 0 0)∧v5.frozen? ⟨w.heap.size+1,4,none⟩=false∧v5.cell? ⟨gb,0,none⟩=some (.int .i64 ar)∧v5.frozen? ⟨gb,0,none⟩=false∧v5.cell? ⟨gb,1,none⟩=some (.slice ra n rc)∧v5.frozen? ⟨gb,1,none⟩=false∧v5.cell? ⟨gb,2,none⟩=some (.slice la1 (l+1) lc1)∧v5.frozen? ⟨gb,2,none⟩=false∧v5.cell? ⟨gb,3,none⟩=some (.slice ga1 (l+1) gc1)∧v5.frozen? ⟨gb,3,none⟩=false∧v5.cell? ⟨gb,4,none⟩=some (.slice pa1 (l+1) pc1)∧v5.frozen? ⟨gb,4,none⟩=false∧w.heap.size<v5.heap.size∧w.heap.size+1<v5.heap.size∧w.heap.size+2≤v5.heap.size∧hi≤v5.heap.size∧m1≤v5.heap.size∧gb<v5.heap.size:=by (refine ⟨?_,?_,?_,?_,?_,?_,?_,?_,?_,?_,?_,?_,?_,?_,?_,?_,?_,?_,?_,?_,?_,?_,?_,?_,?_,?_,?_,?_,?_,?_,?_⟩) <;> (first | omega | (rw [(bcell hb).1 _ _ (by omega)];with_reducible assumption) | (rw [(bcell hb).2 _ _ (by omega)];with_reducible assumption))
    replace DA:Hid (IterA fz lo hi v5 ar a n c rows la (l+1) lc lw ga (l+1) gc gh pa (l+1) pc ps):=hid (kpIter DA.out (Keeps.of_below hb (by omega)))
    replace HO:Hid (IterX m0 m1 v5 ar ra n rc rows la1 (l+1) lc1 lw ga1 (l+1) gc1 gh pa1 (l+1) pc1 ps):=hid (kpIterX HO.out (Keeps.of_below hb (by omega)))
    replace HBv3:Hid (Below w.heap.size w v5):=hid (HBv3.out.trans (hb.mono (by omega)))
    clear c0 c1 c2 c3 c4 c5 fc5 c6 fc6 c7 fc7 c8 fc8 c9 fc9 c10 fc10 c11 fc11 c12 fc12 c13 fc13 c14 fc14 s0 s1 s2 s3 hm3 s5
    obtain ⟨c0,c1,c2,c3,c4,c5,fc5,c6,fc6,c7,fc7,c8,fc8,c9,fc9,c10,fc10,c11,fc11,c12,fc12,c13,fc13,c14,fc14,s0,s1,s2,s3,hm3,s5⟩:=hFF
    clear hz hb
    rw [HE.out]
    cases eb with
    | true =>
     have HF:=hid (op_end HE.out)
     go_wp2
     refine bodyPost_ret (v:=.tuple #[iterV ar ra n rc la1 (l+1) lc1 ga1 (l+1) gc1 pa1 (l+1) pc1,.bool false]) (by simp [results,Try.results15,go_sem,c0,c1,c2,c3,c4,c5,c6,c7,c8,c9,c10,c11,c12,c13,c14]) rfl ⟨ra,n,rc,la1,(l+1),lc1,ga1,(l+1),gc1,pa1,(l+1),pc1,(by rw [HF.out]),?_,?_⟩
     ·rw [HF.out,opT_no,opT_no,opT_no];exact hgIterS (wdIterS (kpIterS HO.out.s (by (repeat (first | (with_reducible refine Keeps.sc ?_ (by omega) _) | (with_reducible refine Keeps.al ?_ (by first | ((try simp only [sz_alloc,sz_drewN,sz_drew1,sz_set]);omega) | (simp;done) | (simp;omega)) _) | (with_reducible refine Keeps.dr ?_ _)));with_reducible exact Keeps.refl _ _ _)) (by omega)) (by first | ((try simp only [sz_alloc,sz_drewN,sz_drew1,sz_set]);omega) | (simp;done) | (simp;omega))
     ·have hq:=HBv3.out;(repeat (first | (with_reducible refine Below.setCell ?_ (by first | ((try simp only [sz_alloc,sz_drewN,sz_drew1,sz_set]);omega) | (simp;done) | (simp;omega)) _) | (with_reducible refine below_drewN ?_ _) | (with_reducible refine below_drew1 ?_)));with_reducible exact hq
    | false =>
     have HF:Hid (opOK ar rows lw gh ps=true):=hid (op_yes HVB.out HE.out (by have h:=HLN.out.2.2.2;rw [h];omega))
     have HST:Hid (standsF ar rows lw gh ps=true):=hid (by rw [stands_val HVB.out (by have h:=HLN.out;omega),HE.out];rfl)
     obtain ⟨hv,l9,hpn,hpx,hgx,hlt,hbn,hla,hrl⟩:=stands_out HST.out
     obtain rfl:l=l9:=by have h:=HLN.out;omega
     have hnr:rows.length=n:=HLN.out.1
     have HRL:Hid (∀ i,i<n→l<(rx rows i).length):=hid (fun i hi=>by have:=hrl i (by omega);omega)
     obtain ⟨p,hp⟩:∃ p,px ps l=p:=⟨_,rfl⟩
     obtain ⟨h,hh9⟩:∃ h,(bnd rows ps l).2=h:=⟨_,rfl⟩
     have hbs:bnd rows ps ps.length=(px ps l,grpEnd rows l (px ps l) (bnd rows ps l).2):=by rw [hpn];rfl
     rw [hp] at hpx hlt hbs;rw [hh9] at hgx hlt hbn hbs;rw [hnr] at hbn
     have hns:=HO.out.s.it.1.2.small
     obtain ⟨q,hq⟩:∃ q,grpEnd rows l p h=q:=⟨_,rfl⟩
     have hqle:q≤h:=by rw [← hq];exact grpEnd_le _ _ _ _
     have HB:Hid ((bnd rows ps ps.length).1=p∧(bnd rows ps ps.length).2=q):=hid (by rw [hbs,hq];exact ⟨rfl,rfl⟩)
     have HPX:=hid (And.intro hpx (And.intro hgx (And.intro hp (And.intro hh9 hq))));clear hp hh9 hq hpn hla hrl hv hbs
     obtain ⟨pb,po,rfl,_,pb2,pc0,_⟩:=DA.out.2.2.2.open (show 0<l+1 by omega)
     replace pc0:=pc0 l (by omega)
     rw [hpx] at pc0
     clear hpx hgx
     have hj1:(l:Int)<(l:Int)+1:=by omega
     have spb:pb<v5.heap.size:=by omega
     go_wp2_with fail
     refine (specBehind ar a n c rows la (l+1) lc lw ga (l+1) gc gh (some ⟨pb,po,none⟩) pc ps l p h _ DA.out (by omega) (by omega) HPX.out.2.1 HPX.out.1 hlt (by omega) (fun i hi=>HRL.out i (by omega))).mono ?_
     rintro e v6 ⟨rfl,hb⟩
     rw [HPX.out.2.2.2.2]
     have hz:=hb.size
     have hFF:v6.cell? ⟨w.heap.size,0,none⟩=some (.int .i64 ar)∧v6.cell? ⟨w.heap.size,1,none⟩=some (.slice a n c)∧v6.cell? ⟨w.heap.size,2,none⟩=some (.slice la (l+1) lc)∧v6.cell? ⟨w.heap.size,3,none⟩=some (.slice ga (l+1) gc)∧v6.cell? ⟨w.heap.size,4,none⟩=some (.slice (some ⟨pb,po,none⟩) (l+1) pc)∧v6.cell? ⟨w.heap.size+1,0,none⟩=some (.int .i64 0)∧v6.frozen? ⟨w.heap.size+1,0,none⟩=false∧v6.cell? ⟨w.heap.size+1,1,none⟩=some (.slice none 0 0)∧v6.frozen? ⟨w.heap.size+1,1,none⟩=false∧v6.cell? ⟨w.heap.size+1,2,none⟩=some (.slice none 0 0)∧v6.frozen? ⟨w.heap.size+1,2,none⟩=false∧v6.cell? ⟨w.heap.size+1,3,none⟩=some (.slice none 0 0)∧v6.frozen? ⟨w.heap.size+1,3,none⟩=false∧v6.cell? ⟨w.heap.size+1,4,none⟩=some (.slice none 0 0)∧v6.frozen? ⟨w.heap.size+1,4,none⟩=false∧v6.cell? ⟨gb,0,none⟩=some (.int .i64 ar)∧v6.frozen? ⟨gb,0,none⟩=false∧v6.cell? ⟨gb,1,none⟩=some (.slice ra n rc)∧v6.frozen? ⟨gb,1,none⟩=false∧v6.cell? ⟨gb,2,none⟩=some (.slice la1 (l+1) lc1)∧v6.frozen? ⟨gb,2,none⟩=false∧v6.cell? ⟨gb,3,none⟩=some (.slice ga1 (l+1) gc1)∧v6.frozen? ⟨gb,3,none⟩=false∧v6.cell? ⟨gb,4,none⟩=some (.slice pa1 (l+1) pc1)∧v6.frozen? ⟨gb,4,none⟩=false∧v6.cell? ⟨pb,po+l,none⟩=some (.int .i64 p)∧w.heap.size<v6.heap.size∧w.heap.size+1<v6.heap.size∧w.heap.size+2≤v6.heap.size∧hi≤v6.heap.size∧m1≤v6.heap.size∧gb<v6.heap.size∧pb<v6.heap.size:=by (refine ⟨?_,?_,?_,?_,?_,?_,?_,?_,?_,?_,?_,?_,?_,?_,?_,?_,?_,?_,?_,?_,?_,?_,?_,?_,?_,?_,?_,?_,?_,?_,?_,?_,?_⟩) <;> (first | omega | (rw [(bcell hb).1 _ _ (by omega)];with_reducible assumption) | (rw [(bcell hb).2 _ _ (by omega)];with_reducible assumption))
     replace DA:Hid (IterA fz lo hi v6 ar a n c rows la (l+1) lc lw ga (l+1) gc gh (some ⟨pb,po,none⟩) (l+1) pc ps):=hid (kpIter DA.out (Keeps.of_below hb (by omega)))
     replace HO:Hid (IterX m0 m1 v6 ar ra n rc rows la1 (l+1) lc1 lw ga1 (l+1) gc1 gh pa1 (l+1) pc1 ps):=hid (kpIterX HO.out (Keeps.of_below hb (by omega)))
     replace HBv3:Hid (Below w.heap.size w v6):=hid (HBv3.out.trans (hb.mono (by omega)))
     clear c0 c1 c2 c3 c4 c5 fc5 c6 fc6 c7 fc7 c8 fc8 c9 fc9 c10 fc10 c11 fc11 c12 fc12 c13 fc13 c14 fc14 pc0 s0 s1 s2 s3 hm3 s5 spb
     obtain ⟨c0,c1,c2,c3,c4,c5,fc5,c6,fc6,c7,fc7,c8,fc8,c9,fc9,c10,fc10,c11,fc11,c12,fc12,c13,fc13,c14,fc14,pc0,s0,s1,s2,s3,hm3,s5,spb⟩:=hFF
     clear hz hb
     clear pc0
     have hcp:=HO.out.s.caps;unfold maxLen at hcp
     have hbn:n≤1048576∧(l+1)≤1048576:=by have h:=HSZ.out;have h2:=HLN.out;unfold szIter rowsSz at h;omega
     obtain ⟨h64,ib0,ie0,ib1,ie1,ib2,ie2,ib3,ie3,r0,x1,x2,x3,hA⟩:=HO.out
     unfold Apart4 at hA
     have HR0:=hid r0;have HX1:=hid x1;have HX2:=hid x2;have HX3:=hid x3;have HAR:=hid h64;clear r0 x1 x2 x3 h64 HO
     go_wp2_with (at_builtin;refine halt' ?_)
     unfold Halt'
     obtain ⟨gg1,hgg1⟩:∃ g,g=v6.heap.size:=⟨_,rfl⟩
     have hgg1b:m1≤gg1∧gb<gg1:=by omega
     rw [← hgg1]
     refine absL (fun W=>(W.cell? ⟨w.heap.size,0,none⟩=some (.int .i64 ar)∧W.cell? ⟨w.heap.size,1,none⟩=some (.slice a n c)∧W.cell? ⟨w.heap.size,2,none⟩=some (.slice la (l+1) lc)∧W.cell? ⟨w.heap.size,3,none⟩=some (.slice ga (l+1) gc)∧W.cell? ⟨w.heap.size,4,none⟩=some (.slice (some ⟨pb,po,none⟩) (l+1) pc)∧W.cell? ⟨w.heap.size+1,0,none⟩=some (.int .i64 0)∧W.frozen? ⟨w.heap.size+1,0,none⟩=false∧W.cell? ⟨w.heap.size+1,1,none⟩=some (.slice none 0 0)∧W.frozen? ⟨w.heap.size+1,1,none⟩=false∧W.cell? ⟨w.heap.size+1,2,none⟩=some (.slice none 0 0)∧W.frozen? ⟨w.heap.size+1,2,none⟩=false∧W.cell? ⟨w.heap.size+1,3,none⟩=some (.slice none 0 0)∧W.frozen? ⟨w.heap.size+1,3,none⟩=false∧W.cell? ⟨w.heap.size+1,4,none⟩=some (.slice none 0 0)∧W.frozen? ⟨w.heap.size+1,4,none⟩=false∧W.cell? ⟨gb,0,none⟩=some (.int .i64 ar)∧W.frozen? ⟨gb,0,none⟩=false∧W.cell? ⟨gb,1,none⟩=some (.slice ra n rc)∧W.frozen? ⟨gb,1,none⟩=false∧W.cell? ⟨gb,2,none⟩=some (.slice la1 (l+1) lc1)∧W.frozen? ⟨gb,2,none⟩=false∧W.cell? ⟨gb,3,none⟩=some (.slice ga1 (l+1) gc1)∧W.frozen? ⟨gb,3,none⟩=false∧W.cell? ⟨gb,4,none⟩=some (.slice pa1 (l+1) pc1)∧W.frozen? ⟨gb,4,none⟩=false∧w.heap.size<W.heap.size∧w.heap.size+1<W.heap.size∧w.heap.size+2≤W.heap.size∧hi≤W.heap.size∧m1≤W.heap.size∧gb<W.heap.size∧pb<W.heap.size∧gg1<W.heap.size)∧Hid (IterA fz lo hi W ar a n c rows la (l+1) lc lw ga (l+1) gc gh (some ⟨pb,po,none⟩) (l+1) pc ps)∧Hid (RowsS ib0 ie0 W ra n rc rows)∧Hid (intsX ib1 ie1 W la1 (l+1) lc1 lw)∧Hid (intsX ib2 ie2 W ga1 (l+1) gc1 gh)∧Hid (intsX ib3 ie3 W pa1 (l+1) pc1 ps)∧Hid (W.heap[gg1]? = some (.cells #[.int .i64 ((p:Nat):Int)] 3 (0,0)))∧Hid (Below w.heap.size w W)) ⟨by (refine ⟨?_,?_,?_,?_,?_,?_,?_,?_,?_,?_,?_,?_,?_,?_,?_,?_,?_,?_,?_,?_,?_,?_,?_,?_,?_,?_,?_,?_,?_,?_,?_,?_,?_⟩) <;> (first | with_reducible assumption | ((try simp only [sz_alloc,sz_drewN,sz_drew1,sz_set]);omega) | (simp (disch:=(first | omega | (simp only [sz_alloc,sz_drewN,sz_drew1,sz_set];omega) | (simp (disch:=(first | omega | (simp only [sz_alloc,sz_drewN,sz_drew1,sz_set];omega))) only [calloc,cdrewN,cdrew1,cset_far,cset_off, *,Option.isSome_some];done))) only [calloc,falloc,cdrewN,cdrew1,fdrewN,fdrew1,cset_far,cset_off,fset_any,World.cell?_setCell_same'];first | done | with_reducible assumption) | (go_simp;done) | (simp;done)),hid (kpIter DA.out (by (repeat (first | (with_reducible refine Keeps.sc ?_ (by omega) _) | (with_reducible refine Keeps.al ?_ (by first | ((try simp only [sz_alloc,sz_drewN,sz_drew1,sz_set]);omega) | (simp;done) | (simp;omega)) _) | (with_reducible refine Keeps.dr ?_ _)));with_reducible exact Keeps.refl _ _ _)),hid (SepA.keep intsQOK HR0.out (by (repeat (first | (with_reducible refine Keeps.sc ?_ (by omega) _) | (with_reducible refine Keeps.al ?_ (by first | ((try simp only [sz_alloc,sz_drewN,sz_drew1,sz_set]);omega) | (simp;done) | (simp;omega)) _) | (with_reducible refine Keeps.dr ?_ _)));with_reducible exact Keeps.refl _ _ _)),hid (intsXOK.keep HX1.out (by (repeat (first | (with_reducible refine Keeps.sc ?_ (by omega) _) | (with_reducible refine Keeps.al ?_ (by first | ((try simp only [sz_alloc,sz_drewN,sz_drew1,sz_set]);omega) | (simp;done) | (simp;omega)) _) | (with_reducible refine Keeps.dr ?_ _)));with_reducible exact Keeps.refl _ _ _)),hid (intsXOK.keep HX2.out (by (repeat (first | (with_reducible refine Keeps.sc ?_ (by omega) _) | (with_reducible refine Keeps.al ?_ (by first | ((try simp only [sz_alloc,sz_drewN,sz_drew1,sz_set]);omega) | (simp;done) | (simp;omega)) _) | (with_reducible refine Keeps.dr ?_ _)));with_reducible exact Keeps.refl _ _ _)),hid (intsXOK.keep HX3.out (by (repeat (first | (with_reducible refine Keeps.sc ?_ (by omega) _) | (with_reducible refine Keeps.al ?_ (by first | ((try simp only [sz_alloc,sz_drewN,sz_drew1,sz_set]);omega) | (simp;done) | (simp;omega)) _) | (with_reducible refine Keeps.dr ?_ _)));with_reducible exact Keeps.refl _ _ _)),hid ((alloc_at (by (try simp only [sz_alloc,sz_drewN,sz_drew1,sz_set]);omega))),hid (by (repeat (first | (with_reducible refine Below.setCell ?_ (by first | ((try simp only [sz_alloc,sz_drewN,sz_drew1,sz_set]);omega) | (simp;done) | (simp;omega)) _) | (with_reducible refine Below.al ?_ (by first | ((try simp only [sz_alloc,sz_drewN,sz_drew1,sz_set]);omega) | (simp;done) | (simp;omega)) _) | (with_reducible refine below_drewN ?_ _) | (with_reducible refine below_drew1 ?_)));with_reducible exact HBv3.out)⟩ ?_
     clear c0 c1 c2 c3 c4 c5 c6 c7 c8 c9 c10 c11 c12 c13 c14 fc5 fc6 fc7 fc8 fc9 fc10 fc11 fc12 fc13 fc14 s0 s1 s2 s3 hm3 s5 spb DA HR0 HX1 HX2 HX3 HBv3
     rintro v7 ⟨⟨c0,c1,c2,c3,c4,c5,fc5,c6,fc6,c7,fc7,c8,fc8,c9,fc9,c10,fc10,c11,fc11,c12,fc12,c13,fc13,c14,fc14,s0,s1,s2,s3,hm3,s5,spb,s6⟩,DA,HR0,HX1,HX2,HX3,HG1,HBv7⟩
     refine wpAppX (s:=ib1) (t:=ie1) rfl (.tmp 43) (.tmp 45) rfl la1 ((l+1)) lc1 lw rfl HX1.out (by omega) gg1 ((p:Nat):Int) rfl (by unfold I64;omega) HG1.out (by omega) ?_
     intro la2 lc2 v8 p1 q1 hi1 hx1
     obtain ⟨hz1,hzt1,hcs1,hk1,hbl1⟩:=hx1
     have hgp1:q1≤gb∨gb<p1:=by omega
     have hpp1:(p1=ib1∧q1=ie1)∨(m1≤p1):=by omega
     clear hcs1
     have HY1:=hid hi1;clear hi1 HX1 HG1 hgg1
     replace c0:v8.cell? ⟨w.heap.size,0,none⟩=some (.int .i64 ar):=by rw [World.cell?_of_block (w:=v7) (a:=⟨w.heap.size,0,none⟩) (hk1 (w.heap.size) (w.heap.size+1) (by omega) (by omega) _ (Nat.le_refl _) (Nat.lt_succ_self _))];exact c0
     replace c1:v8.cell? ⟨w.heap.size,1,none⟩=some (.slice a n c):=by rw [World.cell?_of_block (w:=v7) (a:=⟨w.heap.size,1,none⟩) (hk1 (w.heap.size) (w.heap.size+1) (by omega) (by omega) _ (Nat.le_refl _) (Nat.lt_succ_self _))];exact c1
     replace c2:v8.cell? ⟨w.heap.size,2,none⟩=some (.slice la (l+1) lc):=by rw [World.cell?_of_block (w:=v7) (a:=⟨w.heap.size,2,none⟩) (hk1 (w.heap.size) (w.heap.size+1) (by omega) (by omega) _ (Nat.le_refl _) (Nat.lt_succ_self _))];exact c2
     replace c3:v8.cell? ⟨w.heap.size,3,none⟩=some (.slice ga (l+1) gc):=by rw [World.cell?_of_block (w:=v7) (a:=⟨w.heap.size,3,none⟩) (hk1 (w.heap.size) (w.heap.size+1) (by omega) (by omega) _ (Nat.le_refl _) (Nat.lt_succ_self _))];exact c3
     replace c4:v8.cell? ⟨w.heap.size,4,none⟩=some (.slice (some ⟨pb,po,none⟩) (l+1) pc):=by rw [World.cell?_of_block (w:=v7) (a:=⟨w.heap.size,4,none⟩) (hk1 (w.heap.size) (w.heap.size+1) (by omega) (by omega) _ (Nat.le_refl _) (Nat.lt_succ_self _))];exact c4
     replace c5:v8.cell? ⟨w.heap.size+1,0,none⟩=some (.int .i64 0):=by rw [World.cell?_of_block (w:=v7) (a:=⟨w.heap.size+1,0,none⟩) (hk1 (w.heap.size+1) (w.heap.size+1+1) (by omega) (by omega) _ (Nat.le_refl _) (Nat.lt_succ_self _))];exact c5
     replace fc5:v8.frozen? ⟨w.heap.size+1,0,none⟩=false:=by rw [World.frozen?_of_block (w:=v7) (a:=⟨w.heap.size+1,0,none⟩) (hk1 (w.heap.size+1) (w.heap.size+1+1) (by omega) (by omega) _ (Nat.le_refl _) (Nat.lt_succ_self _))];exact fc5
     replace c6:v8.cell? ⟨w.heap.size+1,1,none⟩=some (.slice none 0 0):=by rw [World.cell?_of_block (w:=v7) (a:=⟨w.heap.size+1,1,none⟩) (hk1 (w.heap.size+1) (w.heap.size+1+1) (by omega) (by omega) _ (Nat.le_refl _) (Nat.lt_succ_self _))];exact c6
     replace fc6:v8.frozen? ⟨w.heap.size+1,1,none⟩=false:=by rw [World.frozen?_of_block (w:=v7) (a:=⟨w.heap.size+1,1,none⟩) (hk1 (w.heap.size+1) (w.heap.size+1+1) (by omega) (by omega) _ (Nat.le_refl _) (Nat.lt_succ_self _))];exact fc6
     replace c7:v8.cell? ⟨w.heap.size+1,2,none⟩=some (.slice none 0 0):=by rw [World.cell?_of_block (w:=v7) (a:=⟨w.heap.size+1,2,none⟩) (hk1 (w.heap.size+1) (w.heap.size+1+1) (by omega) (by omega) _ (Nat.le_refl _) (Nat.lt_succ_self _))];exact c7
     replace fc7:v8.frozen? ⟨w.heap.size+1,2,none⟩=false:=by rw [World.frozen?_of_block (w:=v7) (a:=⟨w.heap.size+1,2,none⟩) (hk1 (w.heap.size+1) (w.heap.size+1+1) (by omega) (by omega) _ (Nat.le_refl _) (Nat.lt_succ_self _))];exact fc7
     replace c8:v8.cell? ⟨w.heap.size+1,3,none⟩=some (.slice none 0 0):=by rw [World.cell?_of_block (w:=v7) (a:=⟨w.heap.size+1,3,none⟩) (hk1 (w.heap.size+1) (w.heap.size+1+1) (by omega) (by omega) _ (Nat.le_refl _) (Nat.lt_succ_self _))];exact c8
     replace fc8:v8.frozen? ⟨w.heap.size+1,3,none⟩=false:=by rw [World.frozen?_of_block (w:=v7) (a:=⟨w.heap.size+1,3,none⟩) (hk1 (w.heap.size+1) (w.heap.size+1+1) (by omega) (by omega) _ (Nat.le_refl _) (Nat.lt_succ_self _))];exact fc8
     replace c9:v8.cell? ⟨w.heap.size+1,4,none⟩=some (.slice none 0 0):=by rw [World.cell?_of_block (w:=v7) (a:=⟨w.heap.size+1,4,none⟩) (hk1 (w.heap.size+1) (w.heap.size+1+1) (by omega) (by omega) _ (Nat.le_refl _) (Nat.lt_succ_self _))];exact c9
     replace fc9:v8.frozen? ⟨w.heap.size+1,4,none⟩=false:=by rw [World.frozen?_of_block (w:=v7) (a:=⟨w.heap.size+1,4,none⟩) (hk1 (w.heap.size+1) (w.heap.size+1+1) (by omega) (by omega) _ (Nat.le_refl _) (Nat.lt_succ_self _))];exact fc9
     replace c10:v8.cell? ⟨gb,0,none⟩=some (.int .i64 ar):=by rw [World.cell?_of_block (w:=v7) (a:=⟨gb,0,none⟩) (hk1 (gb) (gb+1) (by omega) (by omega) _ (Nat.le_refl _) (Nat.lt_succ_self _))];exact c10
     replace fc10:v8.frozen? ⟨gb,0,none⟩=false:=by rw [World.frozen?_of_block (w:=v7) (a:=⟨gb,0,none⟩) (hk1 (gb) (gb+1) (by omega) (by omega) _ (Nat.le_refl _) (Nat.lt_succ_self _))];exact fc10
     replace c11:v8.cell? ⟨gb,1,none⟩=some (.slice ra n rc):=by rw [World.cell?_of_block (w:=v7) (a:=⟨gb,1,none⟩) (hk1 (gb) (gb+1) (by omega) (by omega) _ (Nat.le_refl _) (Nat.lt_succ_self _))];exact c11
     replace fc11:v8.frozen? ⟨gb,1,none⟩=false:=by rw [World.frozen?_of_block (w:=v7) (a:=⟨gb,1,none⟩) (hk1 (gb) (gb+1) (by omega) (by omega) _ (Nat.le_refl _) (Nat.lt_succ_self _))];exact fc11
     replace c12:v8.cell? ⟨gb,2,none⟩=some (.slice la1 (l+1) lc1):=by rw [World.cell?_of_block (w:=v7) (a:=⟨gb,2,none⟩) (hk1 (gb) (gb+1) (by omega) (by omega) _ (Nat.le_refl _) (Nat.lt_succ_self _))];exact c12
     replace fc12:v8.frozen? ⟨gb,2,none⟩=false:=by rw [World.frozen?_of_block (w:=v7) (a:=⟨gb,2,none⟩) (hk1 (gb) (gb+1) (by omega) (by omega) _ (Nat.le_refl _) (Nat.lt_succ_self _))];exact fc12
     replace c13:v8.cell? ⟨gb,3,none⟩=some (.slice ga1 (l+1) gc1):=by rw [World.cell?_of_block (w:=v7) (a:=⟨gb,3,none⟩) (hk1 (gb) (gb+1) (by omega) (by omega) _ (Nat.le_refl _) (Nat.lt_succ_self _))];exact c13
     replace fc13:v8.frozen? ⟨gb,3,none⟩=false:=by rw [World.frozen?_of_block (w:=v7) (a:=⟨gb,3,none⟩) (hk1 (gb) (gb+1) (by omega) (by omega) _ (Nat.le_refl _) (Nat.lt_succ_self _))];exact fc13
     replace c14:v8.cell? ⟨gb,4,none⟩=some (.slice pa1 (l+1) pc1):=by rw [World.cell?_of_block (w:=v7) (a:=⟨gb,4,none⟩) (hk1 (gb) (gb+1) (by omega) (by omega) _ (Nat.le_refl _) (Nat.lt_succ_self _))];exact c14
     replace fc14:v8.frozen? ⟨gb,4,none⟩=false:=by rw [World.frozen?_of_block (w:=v7) (a:=⟨gb,4,none⟩) (hk1 (gb) (gb+1) (by omega) (by omega) _ (Nat.le_refl _) (Nat.lt_succ_self _))];exact fc14
     replace DA:Hid (IterA fz lo hi v8 ar a n c rows la (l+1) lc lw ga (l+1) gc gh (some ⟨pb,po,none⟩) (l+1) pc ps):=hid (kpIter DA.out (hk1 (lo) (hi) (by omega) (by omega)))
     replace HR0:Hid (RowsS ib0 ie0 v8 ra n rc rows):=hid (SepA.keep intsQOK HR0.out (hk1 (ib0) (ie0) (by omega) (by omega)))
     replace HX2:Hid (intsX ib2 ie2 v8 ga1 (l+1) gc1 gh):=hid (intsXOK.keep HX2.out (hk1 (ib2) (ie2) (by omega) (by omega)))
     replace HX3:Hid (intsX ib3 ie3 v8 pa1 (l+1) pc1 ps):=hid (intsXOK.keep HX3.out (hk1 (ib3) (ie3) (by omega) (by omega)))
     replace HBv7:Hid (Below w.heap.size w v8):=hid (HBv7.out.trans (hbl1 _ (by omega) (by omega)))
     replace s0:w.heap.size<v8.heap.size:=(by omega)
     replace s1:w.heap.size+1<v8.heap.size:=(by omega)
     replace s2:w.heap.size+2≤v8.heap.size:=(by omega)
     replace s3:hi≤v8.heap.size:=(by omega)
     replace hm3:m1≤v8.heap.size:=(by omega)
     replace s5:gb<v8.heap.size:=(by omega)
     replace spb:pb<v8.heap.size:=(by omega)
     replace s6:gg1<v8.heap.size:=(by omega)
     clear hk1 hbl1
     go_wp2_with (at_builtin;refine halt' ?_)
     unfold Halt'
     obtain ⟨gg2,hgg2⟩:∃ g,g=v8.heap.size:=⟨_,rfl⟩
     have hgg2b:m1≤gg2∧gb<gg2:=by omega
     try simp only [sz_set]
     rw [← hgg2]
     refine absL (fun W=>(W.cell? ⟨w.heap.size,0,none⟩=some (.int .i64 ar)∧W.cell? ⟨w.heap.size,1,none⟩=some (.slice a n c)∧W.cell? ⟨w.heap.size,2,none⟩=some (.slice la (l+1) lc)∧W.cell? ⟨w.heap.size,3,none⟩=some (.slice ga (l+1) gc)∧W.cell? ⟨w.heap.size,4,none⟩=some (.slice (some ⟨pb,po,none⟩) (l+1) pc)∧W.cell? ⟨w.heap.size+1,0,none⟩=some (.int .i64 0)∧W.frozen? ⟨w.heap.size+1,0,none⟩=false∧W.cell? ⟨w.heap.size+1,1,none⟩=some (.slice none 0 0)∧W.frozen? ⟨w.heap.size+1,1,none⟩=false∧W.cell? ⟨w.heap.size+1,2,none⟩=some (.slice none 0 0)∧W.frozen? ⟨w.heap.size+1,2,none⟩=false∧W.cell? ⟨w.heap.size+1,3,none⟩=some (.slice none 0 0)∧W.frozen? ⟨w.heap.size+1,3,none⟩=false∧W.cell? ⟨w.heap.size+1,4,none⟩=some (.slice none 0 0)∧W.frozen? ⟨w.heap.size+1,4,none⟩=false∧W.cell? ⟨gb,0,none⟩=some (.int .i64 ar)∧W.frozen? ⟨gb,0,none⟩=false∧W.cell? ⟨gb,1,none⟩=some (.slice ra n rc)∧W.frozen? ⟨gb,1,none⟩=false∧W.cell? ⟨gb,2,none⟩=some (.slice la2 ((l+1)+1) lc2)∧W.frozen? ⟨gb,2,none⟩=false∧W.cell? ⟨gb,3,none⟩=some (.slice ga1 (l+1) gc1)∧W.frozen? ⟨gb,3,none⟩=false∧W.cell? ⟨gb,4,none⟩=some (.slice pa1 (l+1) pc1)∧W.frozen? ⟨gb,4,none⟩=false∧w.heap.size<W.heap.size∧w.heap.size+1<W.heap.size∧w.heap.size+2≤W.heap.size∧hi≤W.heap.size∧m1≤W.heap.size∧gb<W.heap.size∧pb<W.heap.size∧q1≤W.heap.size∧gg2<W.heap.size)∧Hid (IterA fz lo hi W ar a n c rows la (l+1) lc lw ga (l+1) gc gh (some ⟨pb,po,none⟩) (l+1) pc ps)∧Hid (RowsS ib0 ie0 W ra n rc rows)∧Hid (intsX ib2 ie2 W ga1 (l+1) gc1 gh)∧Hid (intsX ib3 ie3 W pa1 (l+1) pc1 ps)∧Hid (IntsA true p1 q1 W la2 ((l+1)+1) lc2 (lw ++ [((p:Nat):Int)]))∧Hid (W.heap[gg2]? = some (.cells #[.int .i64 ((q:Nat):Int)] 3 (0,0)))∧Hid (Below w.heap.size w W)) ⟨by (refine ⟨?_,?_,?_,?_,?_,?_,?_,?_,?_,?_,?_,?_,?_,?_,?_,?_,?_,?_,?_,?_,?_,?_,?_,?_,?_,?_,?_,?_,?_,?_,?_,?_,?_,?_⟩) <;> (first | with_reducible assumption | ((try simp only [sz_alloc,sz_drewN,sz_drew1,sz_set]);omega) | (simp (disch:=(first | omega | (simp only [sz_alloc,sz_drewN,sz_drew1,sz_set];omega) | (simp (disch:=(first | omega | (simp only [sz_alloc,sz_drewN,sz_drew1,sz_set];omega))) only [calloc,cdrewN,cdrew1,cset_far,cset_off, *,Option.isSome_some];done))) only [calloc,falloc,cdrewN,cdrew1,fdrewN,fdrew1,cset_far,cset_off,fset_any,World.cell?_setCell_same'];first | done | with_reducible assumption) | (go_simp;done) | (simp;done)),hid (kpIter DA.out (by (repeat (first | (with_reducible refine Keeps.sc ?_ (by omega) _) | (with_reducible refine Keeps.al ?_ (by first | ((try simp only [sz_alloc,sz_drewN,sz_drew1,sz_set]);omega) | (simp;done) | (simp;omega)) _) | (with_reducible refine Keeps.dr ?_ _)));with_reducible exact Keeps.refl _ _ _)),hid (SepA.keep intsQOK HR0.out (by (repeat (first | (with_reducible refine Keeps.sc ?_ (by omega) _) | (with_reducible refine Keeps.al ?_ (by first | ((try simp only [sz_alloc,sz_drewN,sz_drew1,sz_set]);omega) | (simp;done) | (simp;omega)) _) | (with_reducible refine Keeps.dr ?_ _)));with_reducible exact Keeps.refl _ _ _)),hid (intsXOK.keep HX2.out (by (repeat (first | (with_reducible refine Keeps.sc ?_ (by omega) _) | (with_reducible refine Keeps.al ?_ (by first | ((try simp only [sz_alloc,sz_drewN,sz_drew1,sz_set]);omega) | (simp;done) | (simp;omega)) _) | (with_reducible refine Keeps.dr ?_ _)));with_reducible exact Keeps.refl _ _ _)),hid (intsXOK.keep HX3.out (by (repeat (first | (with_reducible refine Keeps.sc ?_ (by omega) _) | (with_reducible refine Keeps.al ?_ (by first | ((try simp only [sz_alloc,sz_drewN,sz_drew1,sz_set]);omega) | (simp;done) | (simp;omega)) _) | (with_reducible refine Keeps.dr ?_ _)));with_reducible exact Keeps.refl _ _ _)),hid (IntsA.keep HY1.out (by (repeat (first | (with_reducible refine Keeps.sc ?_ (by omega) _) | (with_reducible refine Keeps.al ?_ (by first | ((try simp only [sz_alloc,sz_drewN,sz_drew1,sz_set]);omega) | (simp;done) | (simp;omega)) _) | (with_reducible refine Keeps.dr ?_ _)));with_reducible exact Keeps.refl _ _ _)),hid ((alloc_at (by (try simp only [sz_alloc,sz_drewN,sz_drew1,sz_set]);omega))),hid (by (repeat (first | (with_reducible refine Below.setCell ?_ (by first | ((try simp only [sz_alloc,sz_drewN,sz_drew1,sz_set]);omega) | (simp;done) | (simp;omega)) _) | (with_reducible refine Below.al ?_ (by first | ((try simp only [sz_alloc,sz_drewN,sz_drew1,sz_set]);omega) | (simp;done) | (simp;omega)) _) | (with_reducible refine below_drewN ?_ _) | (with_reducible refine below_drew1 ?_)));with_reducible exact HBv7.out)⟩ ?_
     clear c0 c1 c2 c3 c4 c5 c6 c7 c8 c9 c10 c11 c12 c13 c14 fc5 fc6 fc7 fc8 fc9 fc10 fc11 fc12 fc13 fc14 s0 s1 s2 s3 hm3 s5 spb hzt1 DA HR0 HX2 HX3 HY1 HBv7
     rintro v9 ⟨⟨c0,c1,c2,c3,c4,c5,fc5,c6,fc6,c7,fc7,c8,fc8,c9,fc9,c10,fc10,c11,fc11,c12,fc12,c13,fc13,c14,fc14,s0,s1,s2,s3,hm3,s5,spb,hzt1,s8⟩,DA,HR0,HX2,HX3,HY1,HG2,HBv9⟩
     refine wpAppX (s:=ib2) (t:=ie2) rfl (.tmp 49) (.tmp 51) rfl ga1 ((l+1)) gc1 gh rfl HX2.out (by omega) gg2 ((q:Nat):Int) rfl (by unfold I64;omega) HG2.out (by omega) ?_
     intro ga2 gc2 v10 p2 q2 hi2 hx2
     obtain ⟨hz2,hzt2,hcs2,hk2,hbl2⟩:=hx2
     have hgp2:q2≤gb∨gb<p2:=by omega
     have hpp2:(p2=ib2∧q2=ie2)∨(m1≤p2∧q1≤p2):=by omega
     clear hcs2
     have HY2:=hid hi2;clear hi2 HX2 HG2 hgg2
     replace c0:v10.cell? ⟨w.heap.size,0,none⟩=some (.int .i64 ar):=by rw [World.cell?_of_block (w:=v9) (a:=⟨w.heap.size,0,none⟩) (hk2 (w.heap.size) (w.heap.size+1) (by omega) (by omega) _ (Nat.le_refl _) (Nat.lt_succ_self _))];exact c0
     replace c1:v10.cell? ⟨w.heap.size,1,none⟩=some (.slice a n c):=by rw [World.cell?_of_block (w:=v9) (a:=⟨w.heap.size,1,none⟩) (hk2 (w.heap.size) (w.heap.size+1) (by omega) (by omega) _ (Nat.le_refl _) (Nat.lt_succ_self _))];exact c1
     replace c2:v10.cell? ⟨w.heap.size,2,none⟩=some (.slice la (l+1) lc):=by rw [World.cell?_of_block (w:=v9) (a:=⟨w.heap.size,2,none⟩) (hk2 (w.heap.size) (w.heap.size+1) (by omega) (by omega) _ (Nat.le_refl _) (Nat.lt_succ_self _))];exact c2
     replace c3:v10.cell? ⟨w.heap.size,3,none⟩=some (.slice ga (l+1) gc):=by rw [World.cell?_of_block (w:=v9) (a:=⟨w.heap.size,3,none⟩) (hk2 (w.heap.size) (w.heap.size+1) (by omega) (by omega) _ (Nat.le_refl _) (Nat.lt_succ_self _))];exact c3
     replace c4:v10.cell? ⟨w.heap.size,4,none⟩=some (.slice (some ⟨pb,po,none⟩) (l+1) pc):=by rw [World.cell?_of_block (w:=v9) (a:=⟨w.heap.size,4,none⟩) (hk2 (w.heap.size) (w.heap.size+1) (by omega) (by omega) _ (Nat.le_refl _) (Nat.lt_succ_self _))];exact c4
     replace c5:v10.cell? ⟨w.heap.size+1,0,none⟩=some (.int .i64 0):=by rw [World.cell?_of_block (w:=v9) (a:=⟨w.heap.size+1,0,none⟩) (hk2 (w.heap.size+1) (w.heap.size+1+1) (by omega) (by omega) _ (Nat.le_refl _) (Nat.lt_succ_self _))];exact c5
     replace fc5:v10.frozen? ⟨w.heap.size+1,0,none⟩=false:=by rw [World.frozen?_of_block (w:=v9) (a:=⟨w.heap.size+1,0,none⟩) (hk2 (w.heap.size+1) (w.heap.size+1+1) (by omega) (by omega) _ (Nat.le_refl _) (Nat.lt_succ_self _))];exact fc5
     replace c6:v10.cell? ⟨w.heap.size+1,1,none⟩=some (.slice none 0 0):=by rw [World.cell?_of_block (w:=v9) (a:=⟨w.heap.size+1,1,none⟩) (hk2 (w.heap.size+1) (w.heap.size+1+1) (by omega) (by omega) _ (Nat.le_refl _) (Nat.lt_succ_self _))];exact c6
     replace fc6:v10.frozen? ⟨w.heap.size+1,1,none⟩=false:=by rw [World.frozen?_of_block (w:=v9) (a:=⟨w.heap.size+1,1,none⟩) (hk2 (w.heap.size+1) (w.heap.size+1+1) (by omega) (by omega) _ (Nat.le_refl _) (Nat.lt_succ_self _))];exact fc6
     replace c7:v10.cell? ⟨w.heap.size+1,2,none⟩=some (.slice none 0 0):=by rw [World.cell?_of_block (w:=v9) (a:=⟨w.heap.size+1,2,none⟩) (hk2 (w.heap.size+1) (w.heap.size+1+1) (by omega) (by omega) _ (Nat.le_refl _) (Nat.lt_succ_self _))];exact c7
     replace fc7:v10.frozen? ⟨w.heap.size+1,2,none⟩=false:=by rw [World.frozen?_of_block (w:=v9) (a:=⟨w.heap.size+1,2,none⟩) (hk2 (w.heap.size+1) (w.heap.size+1+1) (by omega) (by omega) _ (Nat.le_refl _) (Nat.lt_succ_self _))];exact fc7
     replace c8:v10.cell? ⟨w.heap.size+1,3,none⟩=some (.slice none 0 0):=by rw [World.cell?_of_block (w:=v9) (a:=⟨w.heap.size+1,3,none⟩) (hk2 (w.heap.size+1) (w.heap.size+1+1) (by omega) (by omega) _ (Nat.le_refl _) (Nat.lt_succ_self _))];exact c8
     replace fc8:v10.frozen? ⟨w.heap.size+1,3,none⟩=false:=by rw [World.frozen?_of_block (w:=v9) (a:=⟨w.heap.size+1,3,none⟩) (hk2 (w.heap.size+1) (w.heap.size+1+1) (by omega) (by omega) _ (Nat.le_refl _) (Nat.lt_succ_self _))];exact fc8
     replace c9:v10.cell? ⟨w.heap.size+1,4,none⟩=some (.slice none 0 0):=by rw [World.cell?_of_block (w:=v9) (a:=⟨w.heap.size+1,4,none⟩) (hk2 (w.heap.size+1) (w.heap.size+1+1) (by omega) (by omega) _ (Nat.le_refl _) (Nat.lt_succ_self _))];exact c9
     replace fc9:v10.frozen? ⟨w.heap.size+1,4,none⟩=false:=by rw [World.frozen?_of_block (w:=v9) (a:=⟨w.heap.size+1,4,none⟩) (hk2 (w.heap.size+1) (w.heap.size+1+1) (by omega) (by omega) _ (Nat.le_refl _) (Nat.lt_succ_self _))];exact fc9
     replace c10:v10.cell? ⟨gb,0,none⟩=some (.int .i64 ar):=by rw [World.cell?_of_block (w:=v9) (a:=⟨gb,0,none⟩) (hk2 (gb) (gb+1) (by omega) (by omega) _ (Nat.le_refl _) (Nat.lt_succ_self _))];exact c10
     replace fc10:v10.frozen? ⟨gb,0,none⟩=false:=by rw [World.frozen?_of_block (w:=v9) (a:=⟨gb,0,none⟩) (hk2 (gb) (gb+1) (by omega) (by omega) _ (Nat.le_refl _) (Nat.lt_succ_self _))];exact fc10
     replace c11:v10.cell? ⟨gb,1,none⟩=some (.slice ra n rc):=by rw [World.cell?_of_block (w:=v9) (a:=⟨gb,1,none⟩) (hk2 (gb) (gb+1) (by omega) (by omega) _ (Nat.le_refl _) (Nat.lt_succ_self _))];exact c11
     replace fc11:v10.frozen? ⟨gb,1,none⟩=false:=by rw [World.frozen?_of_block (w:=v9) (a:=⟨gb,1,none⟩) (hk2 (gb) (gb+1) (by omega) (by omega) _ (Nat.le_refl _) (Nat.lt_succ_self _))];exact fc11
     replace c12:v10.cell? ⟨gb,2,none⟩=some (.slice la2 ((l+1)+1) lc2):=by rw [World.cell?_of_block (w:=v9) (a:=⟨gb,2,none⟩) (hk2 (gb) (gb+1) (by omega) (by omega) _ (Nat.le_refl _) (Nat.lt_succ_self _))];exact c12
     replace fc12:v10.frozen? ⟨gb,2,none⟩=false:=by rw [World.frozen?_of_block (w:=v9) (a:=⟨gb,2,none⟩) (hk2 (gb) (gb+1) (by omega) (by omega) _ (Nat.le_refl _) (Nat.lt_succ_self _))];exact fc12
     replace c13:v10.cell? ⟨gb,3,none⟩=some (.slice ga1 (l+1) gc1):=by rw [World.cell?_of_block (w:=v9) (a:=⟨gb,3,none⟩) (hk2 (gb) (gb+1) (by omega) (by omega) _ (Nat.le_refl _) (Nat.lt_succ_self _))];exact c13
     replace fc13:v10.frozen? ⟨gb,3,none⟩=false:=by rw [World.frozen?_of_block (w:=v9) (a:=⟨gb,3,none⟩) (hk2 (gb) (gb+1) (by omega) (by omega) _ (Nat.le_refl _) (Nat.lt_succ_self _))];exact fc13
     replace c14:v10.cell? ⟨gb,4,none⟩=some (.slice pa1 (l+1) pc1):=by rw [World.cell?_of_block (w:=v9) (a:=⟨gb,4,none⟩) (hk2 (gb) (gb+1) (by omega) (by omega) _ (Nat.le_refl _) (Nat.lt_succ_self _))];exact c14
     replace fc14:v10.frozen? ⟨gb,4,none⟩=false:=by rw [World.frozen?_of_block (w:=v9) (a:=⟨gb,4,none⟩) (hk2 (gb) (gb+1) (by omega) (by omega) _ (Nat.le_refl _) (Nat.lt_succ_self _))];exact fc14
     replace DA:Hid (IterA fz lo hi v10 ar a n c rows la (l+1) lc lw ga (l+1) gc gh (some ⟨pb,po,none⟩) (l+1) pc ps):=hid (kpIter DA.out (hk2 (lo) (hi) (by omega) (by omega)))
     replace HR0:Hid (RowsS ib0 ie0 v10 ra n rc rows):=hid (SepA.keep intsQOK HR0.out (hk2 (ib0) (ie0) (by omega) (by omega)))
     replace HX3:Hid (intsX ib3 ie3 v10 pa1 (l+1) pc1 ps):=hid (intsXOK.keep HX3.out (hk2 (ib3) (ie3) (by omega) (by omega)))
     replace HY1:Hid (IntsA true p1 q1 v10 la2 ((l+1)+1) lc2 (lw ++ [((p:Nat):Int)])):=hid (IntsA.keep HY1.out (hk2 (p1) (q1) (by omega) (by omega)))
     replace HBv9:Hid (Below w.heap.size w v10):=hid (HBv9.out.trans (hbl2 _ (by omega) (by omega)))
     replace s0:w.heap.size<v10.heap.size:=(by omega)
     replace s1:w.heap.size+1<v10.heap.size:=(by omega)
     replace s2:w.heap.size+2≤v10.heap.size:=(by omega)
     replace s3:hi≤v10.heap.size:=(by omega)
     replace hm3:m1≤v10.heap.size:=(by omega)
     replace s5:gb<v10.heap.size:=(by omega)
     replace spb:pb<v10.heap.size:=(by omega)
     replace hzt1:q1≤v10.heap.size:=(by omega)
     replace s8:gg2<v10.heap.size:=(by omega)
     clear hk2 hbl2
     go_wp2_with (at_builtin;refine halt' ?_)
     unfold Halt'
     obtain ⟨gg3,hgg3⟩:∃ g,g=v10.heap.size:=⟨_,rfl⟩
     have hgg3b:m1≤gg3∧gb<gg3:=by omega
     try simp only [sz_set]
     rw [← hgg3]
     refine absL (fun W=>(W.cell? ⟨w.heap.size,0,none⟩=some (.int .i64 ar)∧W.cell? ⟨w.heap.size,1,none⟩=some (.slice a n c)∧W.cell? ⟨w.heap.size,2,none⟩=some (.slice la (l+1) lc)∧W.cell? ⟨w.heap.size,3,none⟩=some (.slice ga (l+1) gc)∧W.cell? ⟨w.heap.size,4,none⟩=some (.slice (some ⟨pb,po,none⟩) (l+1) pc)∧W.cell? ⟨w.heap.size+1,0,none⟩=some (.int .i64 0)∧W.frozen? ⟨w.heap.size+1,0,none⟩=false∧W.cell? ⟨w.heap.size+1,1,none⟩=some (.slice none 0 0)∧W.frozen? ⟨w.heap.size+1,1,none⟩=false∧W.cell? ⟨w.heap.size+1,2,none⟩=some (.slice none 0 0)∧W.frozen? ⟨w.heap.size+1,2,none⟩=false∧W.cell? ⟨w.heap.size+1,3,none⟩=some (.slice none 0 0)∧W.frozen? ⟨w.heap.size+1,3,none⟩=false∧W.cell? ⟨w.heap.size+1,4,none⟩=some (.slice none 0 0)∧W.frozen? ⟨w.heap.size+1,4,none⟩=false∧W.cell? ⟨gb,0,none⟩=some (.int .i64 ar)∧W.frozen? ⟨gb,0,none⟩=false∧W.cell? ⟨gb,1,none⟩=some (.slice ra n rc)∧W.frozen? ⟨gb,1,none⟩=false∧W.cell? ⟨gb,2,none⟩=some (.slice la2 ((l+1)+1) lc2)∧W.frozen? ⟨gb,2,none⟩=false∧W.cell? ⟨gb,3,none⟩=some (.slice ga2 ((l+1)+1) gc2)∧W.frozen? ⟨gb,3,none⟩=false∧W.cell? ⟨gb,4,none⟩=some (.slice pa1 (l+1) pc1)∧W.frozen? ⟨gb,4,none⟩=false∧w.heap.size<W.heap.size∧w.heap.size+1<W.heap.size∧w.heap.size+2≤W.heap.size∧hi≤W.heap.size∧m1≤W.heap.size∧gb<W.heap.size∧pb<W.heap.size∧q1≤W.heap.size∧q2≤W.heap.size∧gg3<W.heap.size)∧Hid (IterA fz lo hi W ar a n c rows la (l+1) lc lw ga (l+1) gc gh (some ⟨pb,po,none⟩) (l+1) pc ps)∧Hid (RowsS ib0 ie0 W ra n rc rows)∧Hid (intsX ib3 ie3 W pa1 (l+1) pc1 ps)∧Hid (IntsA true p1 q1 W la2 ((l+1)+1) lc2 (lw ++ [((p:Nat):Int)]))∧Hid (IntsA true p2 q2 W ga2 ((l+1)+1) gc2 (gh ++ [((q:Nat):Int)]))∧Hid (W.heap[gg3]? = some (.cells #[.int .i64 ((p:Nat):Int)] 3 (0,0)))∧Hid (Below w.heap.size w W)) ⟨by (refine ⟨?_,?_,?_,?_,?_,?_,?_,?_,?_,?_,?_,?_,?_,?_,?_,?_,?_,?_,?_,?_,?_,?_,?_,?_,?_,?_,?_,?_,?_,?_,?_,?_,?_,?_,?_⟩) <;> (first | with_reducible assumption | ((try simp only [sz_alloc,sz_drewN,sz_drew1,sz_set]);omega) | (simp (disch:=(first | omega | (simp only [sz_alloc,sz_drewN,sz_drew1,sz_set];omega) | (simp (disch:=(first | omega | (simp only [sz_alloc,sz_drewN,sz_drew1,sz_set];omega))) only [calloc,cdrewN,cdrew1,cset_far,cset_off, *,Option.isSome_some];done))) only [calloc,falloc,cdrewN,cdrew1,fdrewN,fdrew1,cset_far,cset_off,fset_any,World.cell?_setCell_same'];first | done | with_reducible assumption) | (go_simp;done) | (simp;done)),hid (kpIter DA.out (by (repeat (first | (with_reducible refine Keeps.sc ?_ (by omega) _) | (with_reducible refine Keeps.al ?_ (by first | ((try simp only [sz_alloc,sz_drewN,sz_drew1,sz_set]);omega) | (simp;done) | (simp;omega)) _) | (with_reducible refine Keeps.dr ?_ _)));with_reducible exact Keeps.refl _ _ _)),hid (SepA.keep intsQOK HR0.out (by (repeat (first | (with_reducible refine Keeps.sc ?_ (by omega) _) | (with_reducible refine Keeps.al ?_ (by first | ((try simp only [sz_alloc,sz_drewN,sz_drew1,sz_set]);omega) | (simp;done) | (simp;omega)) _) | (with_reducible refine Keeps.dr ?_ _)));with_reducible exact Keeps.refl _ _ _)),hid (intsXOK.keep HX3.out (by (repeat (first | (with_reducible refine Keeps.sc ?_ (by omega) _) | (with_reducible refine Keeps.al ?_ (by first | ((try simp only [sz_alloc,sz_drewN,sz_drew1,sz_set]);omega) | (simp;done) | (simp;omega)) _) | (with_reducible refine Keeps.dr ?_ _)));with_reducible exact Keeps.refl _ _ _)),hid (IntsA.keep HY1.out (by (repeat (first | (with_reducible refine Keeps.sc ?_ (by omega) _) | (with_reducible refine Keeps.al ?_ (by first | ((try simp only [sz_alloc,sz_drewN,sz_drew1,sz_set]);omega) | (simp;done) | (simp;omega)) _) | (with_reducible refine Keeps.dr ?_ _)));with_reducible exact Keeps.refl _ _ _)),hid (IntsA.keep HY2.out (by (repeat (first | (with_reducible refine Keeps.sc ?_ (by omega) _) | (with_reducible refine Keeps.al ?_ (by first | ((try simp only [sz_alloc,sz_drewN,sz_drew1,sz_set]);omega) | (simp;done) | (simp;omega)) _) | (with_reducible refine Keeps.dr ?_ _)));with_reducible exact Keeps.refl _ _ _)),hid ((alloc_at (by (try simp only [sz_alloc,sz_drewN,sz_drew1,sz_set]);omega))),hid (by (repeat (first | (with_reducible refine Below.setCell ?_ (by first | ((try simp only [sz_alloc,sz_drewN,sz_drew1,sz_set]);omega) | (simp;done) | (simp;omega)) _) | (with_reducible refine Below.al ?_ (by first | ((try simp only [sz_alloc,sz_drewN,sz_drew1,sz_set]);omega) | (simp;done) | (simp;omega)) _) | (with_reducible refine below_drewN ?_ _) | (with_reducible refine below_drew1 ?_)));with_reducible exact HBv9.out)⟩ ?_
     clear c0 c1 c2 c3 c4 c5 c6 c7 c8 c9 c10 c11 c12 c13 c14 fc5 fc6 fc7 fc8 fc9 fc10 fc11 fc12 fc13 fc14 s0 s1 s2 s3 hm3 s5 spb hzt1 hzt2 DA HR0 HX3 HY1 HY2 HBv9
     rintro v11 ⟨⟨c0,c1,c2,c3,c4,c5,fc5,c6,fc6,c7,fc7,c8,fc8,c9,fc9,c10,fc10,c11,fc11,c12,fc12,c13,fc13,c14,fc14,s0,s1,s2,s3,hm3,s5,spb,hzt1,hzt2,s10⟩,DA,HR0,HX3,HY1,HY2,HG3,HBv11⟩
     refine wpAppX (s:=ib3) (t:=ie3) rfl (.tmp 55) (.tmp 57) rfl pa1 ((l+1)) pc1 ps rfl HX3.out (by omega) gg3 ((p:Nat):Int) rfl (by unfold I64;omega) HG3.out (by omega) ?_
     intro pa2 pc2 v12 p3 q3 hi3 hx3
     obtain ⟨hz3,hzt3,hcs3,hk3,hbl3⟩:=hx3
     have hgp3:q3≤gb∨gb<p3:=by omega
     have hpp3:(p3=ib3∧q3=ie3)∨(m1≤p3∧q1≤p3∧q2≤p3):=by omega
     clear hcs3
     have HY3:=hid hi3;clear hi3 HX3 HG3 hgg3
     replace c0:v12.cell? ⟨w.heap.size,0,none⟩=some (.int .i64 ar):=by rw [World.cell?_of_block (w:=v11) (a:=⟨w.heap.size,0,none⟩) (hk3 (w.heap.size) (w.heap.size+1) (by omega) (by omega) _ (Nat.le_refl _) (Nat.lt_succ_self _))];exact c0
     replace c1:v12.cell? ⟨w.heap.size,1,none⟩=some (.slice a n c):=by rw [World.cell?_of_block (w:=v11) (a:=⟨w.heap.size,1,none⟩) (hk3 (w.heap.size) (w.heap.size+1) (by omega) (by omega) _ (Nat.le_refl _) (Nat.lt_succ_self _))];exact c1
     replace c2:v12.cell? ⟨w.heap.size,2,none⟩=some (.slice la (l+1) lc):=by rw [World.cell?_of_block (w:=v11) (a:=⟨w.heap.size,2,none⟩) (hk3 (w.heap.size) (w.heap.size+1) (by omega) (by omega) _ (Nat.le_refl _) (Nat.lt_succ_self _))];exact c2
     replace c3:v12.cell? ⟨w.heap.size,3,none⟩=some (.slice ga (l+1) gc):=by rw [World.cell?_of_block (w:=v11) (a:=⟨w.heap.size,3,none⟩) (hk3 (w.heap.size) (w.heap.size+1) (by omega) (by omega) _ (Nat.le_refl _) (Nat.lt_succ_self _))];exact c3
     replace c4:v12.cell? ⟨w.heap.size,4,none⟩=some (.slice (some ⟨pb,po,none⟩) (l+1) pc):=by rw [World.cell?_of_block (w:=v11) (a:=⟨w.heap.size,4,none⟩) (hk3 (w.heap.size) (w.heap.size+1) (by omega) (by omega) _ (Nat.le_refl _) (Nat.lt_succ_self _))];exact c4
     replace c5:v12.cell? ⟨w.heap.size+1,0,none⟩=some (.int .i64 0):=by rw [World.cell?_of_block (w:=v11) (a:=⟨w.heap.size+1,0,none⟩) (hk3 (w.heap.size+1) (w.heap.size+1+1) (by omega) (by omega) _ (Nat.le_refl _) (Nat.lt_succ_self _))];exact c5
     replace fc5:v12.frozen? ⟨w.heap.size+1,0,none⟩=false:=by rw [World.frozen?_of_block (w:=v11) (a:=⟨w.heap.size+1,0,none⟩) (hk3 (w.heap.size+1) (w.heap.size+1+1) (by omega) (by omega) _ (Nat.le_refl _) (Nat.lt_succ_self _))];exact fc5
     replace c6:v12.cell? ⟨w.heap.size+1,1,none⟩=some (.slice none 0 0):=by rw [World.cell?_of_block (w:=v11) (a:=⟨w.heap.size+1,1,none⟩) (hk3 (w.heap.size+1) (w.heap.size+1+1) (by omega) (by omega) _ (Nat.le_refl _) (Nat.lt_succ_self _))];exact c6
     replace fc6:v12.frozen? ⟨w.heap.size+1,1,none⟩=false:=by rw [World.frozen?_of_block (w:=v11) (a:=⟨w.heap.size+1,1,none⟩) (hk3 (w.heap.size+1) (w.heap.size+1+1) (by omega) (by omega) _ (Nat.le_refl _) (Nat.lt_succ_self _))];exact fc6
     replace c7:v12.cell? ⟨w.heap.size+1,2,none⟩=some (.slice none 0 0):=by rw [World.cell?_of_block (w:=v11) (a:=⟨w.heap.size+1,2,none⟩) (hk3 (w.heap.size+1) (w.heap.size+1+1) (by omega) (by omega) _ (Nat.le_refl _) (Nat.lt_succ_self _))];exact c7
     replace fc7:v12.frozen? ⟨w.heap.size+1,2,none⟩=false:=by rw [World.frozen?_of_block (w:=v11) (a:=⟨w.heap.size+1,2,none⟩) (hk3 (w.heap.size+1) (w.heap.size+1+1) (by omega) (by omega) _ (Nat.le_refl _) (Nat.lt_succ_self _))];exact fc7
     replace c8:v12.cell? ⟨w.heap.size+1,3,none⟩=some (.slice none 0 0):=by rw [World.cell?_of_block (w:=v11) (a:=⟨w.heap.size+1,3,none⟩) (hk3 (w.heap.size+1) (w.heap.size+1+1) (by omega) (by omega) _ (Nat.le_refl _) (Nat.lt_succ_self _))];exact c8
     replace fc8:v12.frozen? ⟨w.heap.size+1,3,none⟩=false:=by rw [World.frozen?_of_block (w:=v11) (a:=⟨w.heap.size+1,3,none⟩) (hk3 (w.heap.size+1) (w.heap.size+1+1) (by omega) (by omega) _ (Nat.le_refl _) (Nat.lt_succ_self _))];exact fc8
     replace c9:v12.cell? ⟨w.heap.size+1,4,none⟩=some (.slice none 0 0):=by rw [World.cell?_of_block (w:=v11) (a:=⟨w.heap.size+1,4,none⟩) (hk3 (w.heap.size+1) (w.heap.size+1+1) (by omega) (by omega) _ (Nat.le_refl _) (Nat.lt_succ_self _))];exact c9
     replace fc9:v12.frozen? ⟨w.heap.size+1,4,none⟩=false:=by rw [World.frozen?_of_block (w:=v11) (a:=⟨w.heap.size+1,4,none⟩) (hk3 (w.heap.size+1) (w.heap.size+1+1) (by omega) (by omega) _ (Nat.le_refl _) (Nat.lt_succ_self _))];exact fc9
     replace c10:v12.cell? ⟨gb,0,none⟩=some (.int .i64 ar):=by rw [World.cell?_of_block (w:=v11) (a:=⟨gb,0,none⟩) (hk3 (gb) (gb+1) (by omega) (by omega) _ (Nat.le_refl _) (Nat.lt_succ_self _))];exact c10
     replace fc10:v12.frozen? ⟨gb,0,none⟩=false:=by rw [World.frozen?_of_block (w:=v11) (a:=⟨gb,0,none⟩) (hk3 (gb) (gb+1) (by omega) (by omega) _ (Nat.le_refl _) (Nat.lt_succ_self _))];exact fc10
     replace c11:v12.cell? ⟨gb,1,none⟩=some (.slice ra n rc):=by rw [World.cell?_of_block (w:=v11) (a:=⟨gb,1,none⟩) (hk3 (gb) (gb+1) (by omega) (by omega) _ (Nat.le_refl _) (Nat.lt_succ_self _))];exact c11
     replace fc11:v12.frozen? ⟨gb,1,none⟩=false:=by rw [World.frozen?_of_block (w:=v11) (a:=⟨gb,1,none⟩) (hk3 (gb) (gb+1) (by omega) (by omega) _ (Nat.le_refl _) (Nat.lt_succ_self _))];exact fc11
     replace c12:v12.cell? ⟨gb,2,none⟩=some (.slice la2 ((l+1)+1) lc2):=by rw [World.cell?_of_block (w:=v11) (a:=⟨gb,2,none⟩) (hk3 (gb) (gb+1) (by omega) (by omega) _ (Nat.le_refl _) (Nat.lt_succ_self _))];exact c12
     replace fc12:v12.frozen? ⟨gb,2,none⟩=false:=by rw [World.frozen?_of_block (w:=v11) (a:=⟨gb,2,none⟩) (hk3 (gb) (gb+1) (by omega) (by omega) _ (Nat.le_refl _) (Nat.lt_succ_self _))];exact fc12
     replace c13:v12.cell? ⟨gb,3,none⟩=some (.slice ga2 ((l+1)+1) gc2):=by rw [World.cell?_of_block (w:=v11) (a:=⟨gb,3,none⟩) (hk3 (gb) (gb+1) (by omega) (by omega) _ (Nat.le_refl _) (Nat.lt_succ_self _))];exact c13
     replace fc13:v12.frozen? ⟨gb,3,none⟩=false:=by rw [World.frozen?_of_block (w:=v11) (a:=⟨gb,3,none⟩) (hk3 (gb) (gb+1) (by omega) (by omega) _ (Nat.le_refl _) (Nat.lt_succ_self _))];exact fc13
     replace c14:v12.cell? ⟨gb,4,none⟩=some (.slice pa1 (l+1) pc1):=by rw [World.cell?_of_block (w:=v11) (a:=⟨gb,4,none⟩) (hk3 (gb) (gb+1) (by omega) (by omega) _ (Nat.le_refl _) (Nat.lt_succ_self _))];exact c14
     replace fc14:v12.frozen? ⟨gb,4,none⟩=false:=by rw [World.frozen?_of_block (w:=v11) (a:=⟨gb,4,none⟩) (hk3 (gb) (gb+1) (by omega) (by omega) _ (Nat.le_refl _) (Nat.lt_succ_self _))];exact fc14
     replace DA:Hid (IterA fz lo hi v12 ar a n c rows la (l+1) lc lw ga (l+1) gc gh (some ⟨pb,po,none⟩) (l+1) pc ps):=hid (kpIter DA.out (hk3 (lo) (hi) (by omega) (by omega)))
     replace HR0:Hid (RowsS ib0 ie0 v12 ra n rc rows):=hid (SepA.keep intsQOK HR0.out (hk3 (ib0) (ie0) (by omega) (by omega)))
     replace HY1:Hid (IntsA true p1 q1 v12 la2 ((l+1)+1) lc2 (lw ++ [((p:Nat):Int)])):=hid (IntsA.keep HY1.out (hk3 (p1) (q1) (by omega) (by omega)))
     replace HY2:Hid (IntsA true p2 q2 v12 ga2 ((l+1)+1) gc2 (gh ++ [((q:Nat):Int)])):=hid (IntsA.keep HY2.out (hk3 (p2) (q2) (by omega) (by omega)))
     replace HBv11:Hid (Below w.heap.size w v12):=hid (HBv11.out.trans (hbl3 _ (by omega) (by omega)))
     replace s0:w.heap.size<v12.heap.size:=(by omega)
     replace s1:w.heap.size+1<v12.heap.size:=(by omega)
     replace s2:w.heap.size+2≤v12.heap.size:=(by omega)
     replace s3:hi≤v12.heap.size:=(by omega)
     replace hm3:m1≤v12.heap.size:=(by omega)
     replace s5:gb<v12.heap.size:=(by omega)
     replace spb:pb<v12.heap.size:=(by omega)
     replace hzt1:q1≤v12.heap.size:=(by omega)
     replace hzt2:q2≤v12.heap.size:=(by omega)
     replace s10:gg3<v12.heap.size:=(by omega)
     clear hk3 hbl3
     go_wp2
     refine bodyPost_ret (v:=.tuple #[iterV ar ra n rc la2 ((l+1)+1) lc2 ga2 ((l+1)+1) gc2 pa2 ((l+1)+1) pc2,.bool true]) (by simp [results,Try.results15,go_sem,c0,c1,c2,c3,c4,c5,c6,c7,c8,c9,c10,c11,c12,c13,c14]) rfl ⟨ra,n,rc,la2,(l+1)+1,lc2,ga2,(l+1)+1,gc2,pa2,(l+1)+1,pc2,(by rw [HF.out]),?_,?_⟩
     ·rw [HF.out,HB.out.1,HB.out.2,opT_yes,opT_yes,opT_yes];exact hgIterS (hi:=v12.heap.size) (wdIterS (lo:=w.heap.size+2) ⟨HAR.out,ib0,ie0,p1,q1,p2,q2,p3,q3,SepA.keep intsQOK HR0.out (by (repeat (first | (with_reducible refine Keeps.sc ?_ (by omega) _) | (with_reducible refine Keeps.al ?_ (by first | ((try simp only [sz_alloc,sz_drewN,sz_drew1,sz_set]);omega) | (simp;done) | (simp;omega)) _) | (with_reducible refine Keeps.dr ?_ _)));with_reducible exact Keeps.refl _ _ _),IntsA.keep HY1.out (by (repeat (first | (with_reducible refine Keeps.sc ?_ (by omega) _) | (with_reducible refine Keeps.al ?_ (by first | ((try simp only [sz_alloc,sz_drewN,sz_drew1,sz_set]);omega) | (simp;done) | (simp;omega)) _) | (with_reducible refine Keeps.dr ?_ _)));with_reducible exact Keeps.refl _ _ _),IntsA.keep HY2.out (by (repeat (first | (with_reducible refine Keeps.sc ?_ (by omega) _) | (with_reducible refine Keeps.al ?_ (by first | ((try simp only [sz_alloc,sz_drewN,sz_drew1,sz_set]);omega) | (simp;done) | (simp;omega)) _) | (with_reducible refine Keeps.dr ?_ _)));with_reducible exact Keeps.refl _ _ _),IntsA.keep HY3.out (by (repeat (first | (with_reducible refine Keeps.sc ?_ (by omega) _) | (with_reducible refine Keeps.al ?_ (by first | ((try simp only [sz_alloc,sz_drewN,sz_drew1,sz_set]);omega) | (simp;done) | (simp;omega)) _) | (with_reducible refine Keeps.dr ?_ _)));with_reducible exact Keeps.refl _ _ _),by unfold Apart4;omega⟩ (by omega)) (by first | ((try simp only [sz_alloc,sz_drewN,sz_drew1,sz_set]);omega) | (simp;done) | (simp;omega))
     ·have hq:=HBv11.out;(repeat (first | (with_reducible refine Below.setCell ?_ (by first | ((try simp only [sz_alloc,sz_drewN,sz_drew1,sz_set]);omega) | (simp;done) | (simp;omega)) _) | (with_reducible refine below_drewN ?_ _) | (with_reducible refine below_drew1 ?_)));with_reducible exact hq
   ·have hd0:=hf
    have HF:=hid (op_full (ar:=ar) (rows:=rows) (lw:=lw) (gh:=gh) (ps:=ps) (by have h:=HLN.out.2.2.2;rw [h];exact hf))
    obtain rfl:ar=(l:Int)+1:=by omega
    go_wp2
    refine bodyPost_ret (v:=.tuple #[iterV ((l:Int)+1) ra n rc la1 (l+1) lc1 ga1 (l+1) gc1 pa1 (l+1) pc1,.bool false]) (by simp [results,Try.results15,go_sem,c0,c1,c2,c3,c4,c5,c6,c7,c8,c9,c10,c11,c12,c13,c14]) rfl ⟨ra,n,rc,la1,(l+1),lc1,ga1,(l+1),gc1,pa1,(l+1),pc1,(by rw [HF.out]),?_,?_⟩
    ·rw [HF.out,opT_no,opT_no,opT_no];exact hgIterS (wdIterS (kpIterS HO.out.s (by (repeat (first | (with_reducible refine Keeps.sc ?_ (by omega) _) | (with_reducible refine Keeps.al ?_ (by first | ((try simp only [sz_alloc,sz_drewN,sz_drew1,sz_set]);omega) | (simp;done) | (simp;omega)) _) | (with_reducible refine Keeps.dr ?_ _)));with_reducible exact Keeps.refl _ _ _)) (by omega)) (by first | ((try simp only [sz_alloc,sz_drewN,sz_drew1,sz_set]);omega) | (simp;done) | (simp;omega))
    ·have hq:=HBv3.out;(repeat (first | (with_reducible refine Below.setCell ?_ (by first | ((try simp only [sz_alloc,sz_drewN,sz_drew1,sz_set]);omega) | (simp;done) | (simp;omega)) _) | (with_reducible refine below_drewN ?_ _) | (with_reducible refine below_drew1 ?_)));with_reducible exact hq
end Go.Proofs.Ytfobmfngbfbfdaa
