/- Lemmas for the proof of FnExactMaximize, part 45 of 56: no condition of their own. -/
import Derived.Test.YtpbclpopoodklaaR6
import Derived.Test.YtpbclpopoodklaaW1
namespace Go.Proofs.Ytpbclpopoodklaa
set_option linter.unusedSimpArgs false
set_option linter.unusedVariables false
open Go.RowKit
abbrev ratV1 (n d:Int):Value:=.agg #[.int .i64 n,.int .i64 d]
set_option maxHeartbeats 800000 in
theorem toRat1 (n d:Int) (w:World) (_h1:I64 n) (_h2:I64 d):Calls Try.prog 40 #[ratV1 n d] w (Leaves w (ratV1 n d)):=by
  go_enter Try.func40,Try.ntmps40
  go_wp2
  refine bodyPost_ret (v:=ratV1 n d) ?_ rfl ⟨rfl,(by repeat (first | with_reducible assumption | with_reducible exact Below.refl _ _ | with_reducible refine below_drewN ?_ _ | with_reducible refine below_drew1 ?_ | with_reducible refine Below.al ?_ (by first | with_reducible exact Nat.le_refl _ | omega | (simp;done) | (simp;omega) | exact Nat.le_refl _) _ | with_reducible refine Below.setCell ?_ (by first | with_reducible exact Nat.le_refl _ | omega | (simp;done) | (simp;omega) | exact Nat.le_refl _) _ | assumption | exact Below.refl _ _ | refine below_drewN ?_ _ | refine below_drew1 ?_ | refine Below.al ?_ (by first | with_reducible exact Nat.le_refl _ | omega | (simp;done) | (simp;omega) | exact Nat.le_refl _) _ | refine Below.setCell ?_ (by first | with_reducible exact Nat.le_refl _ | omega | (simp;done) | (simp;omega) | exact Nat.le_refl _) _))⟩
  simp [results,Try.results40,go_sem]
set_option maxHeartbeats 800000 in
theorem eqRat1 (n d:Int) (w:World):Calls Try.prog 18 #[ratV1 n d,ratV1 n d] w (Leaves w (.bool true)):=by
  have h1:((n:Int) != n)=false:=by simp
  have h2:((d:Int) != d)=false:=by simp
  go_enter Try.func18,Try.ntmps18
  go_wp2
  go_ret
  exact ⟨rfl,(by repeat (first | with_reducible assumption | with_reducible exact Below.refl _ _ | with_reducible refine below_drewN ?_ _ | with_reducible refine below_drew1 ?_ | with_reducible refine Below.al ?_ (by first | with_reducible exact Nat.le_refl _ | omega | (simp;done) | (simp;omega) | exact Nat.le_refl _) _ | with_reducible refine Below.setCell ?_ (by first | with_reducible exact Nat.le_refl _ | omega | (simp;done) | (simp;omega) | exact Nat.le_refl _) _ | assumption | exact Below.refl _ _ | refine below_drewN ?_ _ | refine below_drew1 ?_ | refine Below.al ?_ (by first | with_reducible exact Nat.le_refl _ | omega | (simp;done) | (simp;omega) | exact Nat.le_refl _) _ | refine Below.setCell ?_ (by first | with_reducible exact Nat.le_refl _ | omega | (simp;done) | (simp;omega) | exact Nat.le_refl _) _))⟩
set_option maxHeartbeats 800000 in
theorem szRats {fz:Bool} {lo hi:Nat} (a:Option Addr) (n c:Nat) (xs:List RatD) (left:Int) (w:World) (hI:RatsA fz lo hi w a n c xs) (h0:0≤left) (h1:left≤1048576) :
    Calls Try.prog 24 #[.slice a n c,.int .i64 left] w (Gives w (.int .i64 (szI xs.length left))):=by
  have hl:=hI.len
  have hs:=hI.small
  by_cases hle:(n:Int)≤left
  · have HS:=hid (show szI xs.length left=left - n by rw [hl,szI_yes hle])
    clear hl
    go_enter Try.func24,Try.ntmps24
    go_wp2
    go_ret
    exact ⟨by rw [HS.out];rfl,0,rfl⟩
  · have HS:=hid (show szI xs.length left = -1 by rw [hl,szI_no hle])
    clear hl
    go_enter Try.func24,Try.ntmps24
    go_wp2
    go_ret
    exact ⟨by rw [HS.out];rfl,0,rfl⟩
set_option maxHeartbeats 800000 in
theorem szMat {fz:Bool} {lo hi:Nat} (a:Option Addr) (n c:Nat) (xss:List (List RatD)) (left:Int) (w:World) (hI:MatA fz lo hi w a n c xss) (h0:0≤left) (h1:left≤1048576) :
    Calls Try.prog 23 #[.slice a n c,.int .i64 left] w (Gives w (.int .i64 (szI (matSz xss) left))):=by
  have hl:=hI.len
  have hs:=hI.small
  have HL:=hid hl;clear hl
  by_cases hle:(n:Int)≤left
  · go_enter Try.func23,Try.ntmps23
    go_wp2
    go_loopw [1,5] (fun l i wr=>∃ (k:Nat) (t:Int),i=.int .i64 k∧l=.int .i64 t∧k≤n∧t=left - n - mlens xss k∧0≤t∧∃ m,wr=w.drewN m) (fun _ i _=>n - (intOf i).toNat)
    case atStart=>exact ⟨0,_,rfl,rfl,by omega,by simp [mlens],by omega,0,rfl⟩
    case round =>
      obtain ⟨k,t,rfl,rfl,hk2,hA,ht0,m,rfl⟩:=hrel
      have ht1:t≤1048576:=by omega
      have HA:=hid hA;clear hA
      by_cases hlt:k<n
      · obtain ⟨b,off,rfl⟩:=matSome hI (by omega)
        obtain ⟨_,_,ra,rn,rc,hc,hr,_⟩:=matAt hI hlt
        have hrl:=hr.len
        have HR:=hid hrl;clear hrl
        by_cases hle2:(rn:Int)≤t
        · go_wp2_with (go_at_call 24;refine (szRats ra rn rc _ t _ (SlA.drewN ratRep hr m) ht0 ht1).mono ?_;rintro e w' ⟨rfl,m',rfl⟩;rw [HR.out,szI_yes hle2])
          go_roundw
          case rel=>exact ⟨k+1,_,by go_num,rfl,by omega,by have h1:=HA.out;have h2:=HR.out;simp only [mlens];omega,by omega,by first | exact ⟨_,rfl⟩ | exact ⟨_,dd⟩⟩
          case measure=>simp [intOf];omega
        · go_wp2_with (go_at_call 24;refine (szRats ra rn rc _ t _ (SlA.drewN ratRep hr m) ht0 ht1).mono ?_;rintro e w' ⟨rfl,m',rfl⟩;rw [HR.out,szI_no hle2])
          go_ret
          exact ⟨ret_int (by
            unfold szI matSz
            have h1:=HA.out;have h2:=HR.out;have h3:=HL.out
            have h4:=mlens_mono (xss:=xss) (i:=k+1) (k:=xss.length) (by omega)
            simp only [mlens] at h4
            rw [if_neg (by omega)]),by first | exact ⟨_,rfl⟩ | exact ⟨_,dd⟩⟩
      · go_wp2
        go_ret
        exact ⟨ret_int (by
            unfold szI matSz
            have h1:=HA.out;have h3:=HL.out
            obtain rfl:k=n:=by omega
            rw [h3,if_pos (by omega)];omega),by first | exact ⟨_,rfl⟩ | exact ⟨_,dd⟩⟩
  · go_enter Try.func23,Try.ntmps23
    go_wp2
    go_ret
    exact ⟨ret_int (by unfold szI matSz;have h3:=HL.out;rw [if_neg (by omega)]),0,rfl⟩
set_option maxHeartbeats 1600000 in
theorem eqRats {fz fz':Bool} {lo hi lo' hi':Nat} (a a':Option Addr) (n c n' c':Nat) (xs:List RatD) (w:World) (hI:RatsA fz lo hi w a n c xs) (hh:hi≤w.heap.size) (hJ:RatsA fz' lo' hi' w a' n' c' xs) (hh':hi'≤w.heap.size) :
    Calls Try.prog 17 #[.slice a n c,.slice a' n' c'] w (Leaves w (.bool true)):=by
  have hl:=hI.len
  have hl':=hJ.len
  have hs:=hI.small
  obtain rfl:n=n':=by omega
  clear hl hl'
  have hb:((n:Int) != (n:Int))=false:=by simp
  go_enter Try.func17,Try.ntmps17
  go_wp2_with fail
  go_loopw [5] (fun i wr=>∃ k:Nat,i=.int .i64 k∧k≤n∧Hid (Below w.heap.size w wr)) (fun i _=>n - (intOf i).toNat)
  case atStart=>exact ⟨0,rfl,by omega,hid (Below.refl _ _)⟩
  case round =>
    obtain ⟨k,rfl,hk,HB⟩:=hrel
    by_cases hlt:k<n
    · have hzr:=HB.out.size
      have hIr:=beRats hI HB.out hh
      have hJr:=beRats hJ HB.out hh'
      obtain ⟨b,off,rfl⟩:=ratsSome hIr (by omega)
      obtain ⟨g1,g2,_,_,d0,d1,_⟩:=ratsAt hIr hlt
      obtain ⟨b',off',rfl⟩:=ratsSome hJr (by omega)
      obtain ⟨g1',g2',_,_,d0',d1',_⟩:=ratsAt hJr hlt
      have e0:∀ x:Later wr.heap.size wr,x.w.cell? ⟨b,off+k*2,none⟩=some (.int .i64 (qx xs k).num):=fun x=>x.cell d0 (by omega)
      have e1:∀ x:Later wr.heap.size wr,x.w.cell? ⟨b,off+k*2+1,none⟩=some (.int .i64 (qx xs k).den):=fun x=>x.cell d1 (by omega)
      have e0':∀ x:Later wr.heap.size wr,x.w.cell? ⟨b',off'+k*2,none⟩=some (.int .i64 (qx xs k).num):=fun x=>x.cell d0' (by omega)
      have e1':∀ x:Later wr.heap.size wr,x.w.cell? ⟨b',off'+k*2+1,none⟩=some (.int .i64 (qx xs k).den):=fun x=>x.cell d1' (by omega)
      have HC:=hid (fun x:Later wr.heap.size wr=>later_of x (Nat.le_refl _) (eqRat1 (qx xs k).num (qx xs k).den x.w))
      have HI:=hid (And.intro (And.intro hI hIr) (And.intro (And.intro hJ hJr) (And.intro (And.intro d0 d1) (And.intro d0' d1'))));clear hI hIr hJ hJr d0 d1 d0' d1'
      go_wp2_with fail
      refine wp_region_later (B:=wr.heap.size) (w0:=wr) (by kernel_rfl) (by kernel_rfl) (Below.refl _ _) ?_
      repeat (any_goals (first | go_big_quiet_step (((go_at_call 18;exact HC.out _))) | quiet_step (((go_at_call 18;exact HC.out _)))))
      refine wpQuiet_nil ?_
      intro _ hw'
      obtain ⟨nq,hw''⟩:=hw'
      subst hw''
      have HQ:=hid nq.be
      generalize nq.w=wq at *
      have HB2:=hid (Below.calm HB.out HQ.out)
      go_wp2_with fail
      go_roundw
      case rel=>exact ⟨k+1,by go_num,by omega,HB2⟩
      case measure=>simp [intOf];omega
    · go_wp2_with fail
      go_ret
      exact ⟨rfl,HB.out⟩
set_option maxHeartbeats 1600000 in
theorem eqMat {fz fz':Bool} {lo hi lo' hi':Nat} (a a':Option Addr) (n c n' c':Nat) (xss:List (List RatD)) (w:World) (hI:MatA fz lo hi w a n c xss) (hh:hi≤w.heap.size) (hJ:MatA fz' lo' hi' w a' n' c' xss) (hh':hi'≤w.heap.size) :
    Calls Try.prog 10 #[.slice a n c,.slice a' n' c'] w (Leaves w (.bool true)):=by
  have hl:=hI.len
  have hl':=hJ.len
  have hs:=hI.small
  obtain rfl:n=n':=by omega
  clear hl hl'
  have hb:((n:Int) != (n:Int))=false:=by simp
  go_enter Try.func10,Try.ntmps10
  go_wp2_with fail
  go_loopw [5] (fun i wr=>∃ k:Nat,i=.int .i64 k∧k≤n∧Hid (Below w.heap.size w wr)) (fun i _=>n - (intOf i).toNat)
  case atStart=>exact ⟨0,rfl,by omega,hid (Below.refl _ _)⟩
  case round =>
    obtain ⟨k,rfl,hk,HB⟩:=hrel
    by_cases hlt:k<n
    · have hzr:=HB.out.size
      have hIr:=beMat hI HB.out hh
      have hJr:=beMat hJ HB.out hh'
      obtain ⟨b,off,rfl⟩:=matSome hIr (by omega)
      obtain ⟨g1,g2,ra,rn,rc,d0,hr,_⟩:=matAt hIr hlt
      obtain ⟨b',off',rfl⟩:=matSome hJr (by omega)
      obtain ⟨g1',g2',ra',rn',rc',d0',hr',_⟩:=matAt hJr hlt
      have e0:∀ x:Later wr.heap.size wr,x.w.cell? ⟨b,off+k,none⟩=some (.slice ra rn rc):=fun x=>x.cell d0 (by omega)
      have e0':∀ x:Later wr.heap.size wr,x.w.cell? ⟨b',off'+k,none⟩=some (.slice ra' rn' rc'):=fun x=>x.cell d0' (by omega)
      have HC:=hid (fun x:Later wr.heap.size wr=>later_of x (Nat.le_refl _) (eqRats ra ra' rn rc rn' rc' (mx xss k) x.w (beRats hr x.be (by omega)) (by have:=x.size;omega) (beRats hr' x.be (by omega)) (by have:=x.size;omega)))
      have HI:=hid (And.intro (And.intro hI hIr) (And.intro (And.intro hJ hJr) (And.intro (And.intro d0 hr) (And.intro d0' hr'))));clear hI hIr hJ hJr d0 hr d0' hr'
      go_wp2_with fail
      refine wp_region_later (B:=wr.heap.size) (w0:=wr) (by kernel_rfl) (by kernel_rfl) (Below.refl _ _) ?_
      repeat (any_goals (first | go_big_quiet_step (((go_at_call 17;exact HC.out _))) | quiet_step (((go_at_call 17;exact HC.out _)))))
      refine wpQuiet_nil ?_
      intro _ hw'
      obtain ⟨nq,hw''⟩:=hw'
      subst hw''
      have HQ:=hid nq.be
      generalize nq.w=wq at *
      have HB2:=hid (Below.calm HB.out HQ.out)
      go_wp2_with fail
      go_roundw
      case rel=>exact ⟨k+1,by go_num,by omega,HB2⟩
      case measure=>simp [intOf];omega
    · go_wp2_with fail
      go_ret
      exact ⟨rfl,HB.out⟩
def RatsTo (g:Nat) (w:World) (n:Nat) (xs:List RatD) (k:Nat):Prop :=
  ∃ vs,w.ownsRow g 39 2 (.slice (some ⟨g,0,none⟩) n n) n vs∧∀ i,i<k→vs[i*2]? = some (.int .i64 (qx xs i).num)∧vs[i*2+1]? = some (.int .i64 (qx xs i).den)
theorem RatsTo.put {g:Nat} {w w1:World} {n:Nat} {xs:List RatD} {k:Nat} (h:RatsTo g w n xs k) (hk:k<n) (hg:g<w.heap.size) (hb:Below w.heap.size w w1) :
    RatsTo g ((w1.setCell ⟨g,k*2,none⟩ (.int .i64 (qx xs k).num)).setCell ⟨g,k*2+1,none⟩ (.int .i64 (qx xs k).den)) n xs (k+1)∧Below g w ((w1.setCell ⟨g,k*2,none⟩ (.int .i64 (qx xs k).num)).setCell ⟨g,k*2+1,none⟩ (.int .i64 (qx xs k).den)) ∧
      (∃ v0,w1.cell? ⟨g,k*2,none⟩=some v0)∧(∃ v0,w1.cell? ⟨g,k*2+1,none⟩=some v0)∧w1.frozen? ⟨g,k*2,none⟩=false∧w1.frozen? ⟨g,k*2+1,none⟩=false:=by
  obtain ⟨vs,ho,hv⟩:=h
  have hlen:vs.length=n*2:=ho.1
  have ho1:w1.ownsRow g 39 2 (.slice (some ⟨g,0,none⟩) n n) n vs:=ho.kept (row:=none) ⟨hb.os,hb.tape,hb.output,hb.size,fun k hk _=>hb.block k hk⟩ (.inr (by simp [Value.ownBlock]))
  obtain ⟨hs1,hs2⟩:=ho1.stored (k*2) (.int .i64 (qx xs k).num)
  obtain ⟨ht1,ht2⟩:=hs1.stored (k*2+1) (.int .i64 (qx xs k).den)
  have hbs:=hb.size
  refine ⟨⟨_,ht1,fun i hi=>?_⟩,?_,?_,?_,ho1.frozenAt _,ho1.frozenAt _⟩
  · by_cases e:i=k
    · subst e
      refine ⟨?_,?_⟩
      · rw [List.getElem?_set_ne (by omega),List.getElem?_set_self (by omega)]
      · rw [List.getElem?_set_self (by rw [List.length_set];omega)]
    · obtain ⟨g1,g2⟩:=hv i (by omega)
      refine ⟨?_,?_⟩
      · rw [List.getElem?_set_ne (by omega),List.getElem?_set_ne (by omega)];exact g1
      · rw [List.getElem?_set_ne (by omega),List.getElem?_set_ne (by omega)];exact g2
  · exact Below.setCell (Below.setCell (hb.mono (by omega)) (by dsimp only;omega) _) (by dsimp only;omega) _
  · have:=ho1.cells (g:=g) rfl (k*2) (vs[k*2]'(by omega)) (by simp)
    rw [Addr.add_lit] at this;exact ⟨_,by simpa using this⟩
  · have:=ho1.cells (g:=g) rfl (k*2+1) (vs[k*2+1]'(by omega)) (by simp)
    rw [Addr.add_lit] at this;exact ⟨_,by simpa using this⟩
def GvRats (w:World) (xs:List RatD) (e:Ending) (w':World):Prop :=
  ∃ a n c,e=.returned (.slice a n c)∧RatsA true w.heap.size w'.heap.size w' a n c xs∧Below w.heap.size w w'
set_option maxHeartbeats 1600000 in
theorem toRats {lo hi:Nat} (a:Option Addr) (n c:Nat) (xs:List RatD) (w:World) (hI:RatsA false lo hi w a n c xs) (hh:hi≤w.heap.size) (hs:xs.length≤1048576) :
    Calls Try.prog 28 #[.slice a n c] w (GvRats w xs):=by
  have hl:=hI.len
  have hn:n≤1048576:=by omega
  have HL:=hid hl;clear hl
  have HS:=hid hs;clear hs
  obtain ⟨i0,hi0,hz0,hz1,hz2⟩:=info_parts infoRat
  go_enter Try.func28,Try.ntmps28
  go_wp2_with (at_make;refine wpList_make_full _ rfl _ _ 29 rfl w.heap.size 39 i0 (.agg #[.int .i64 0,.int .i64 0]) 2 Try.underlying29 hi0 hz0 hz1 _ _ _ _ n rfl rfl rfl rfl ?b1 ?b2 ?b3 ?_)
  case b1=>rw [hz2];omega
  case b2=>unfold maxLen;omega
  case b3=>exact Nat.le_refl _
  intro w1 hown hgrow
  have hb:Below w.heap.size w w1:=(Below.refl _ _).grown hgrow (Nat.le_refl _) (fun k h=>by cases h)
  obtain ⟨g,hg⟩:∃ g,g=w.heap.size:=⟨_,rfl⟩
  rw [← hg] at hown ⊢
  have hgw:g<w1.heap.size:=by
    have:=hown.lt g rfl;exact this.2
  have HG:=hid hg;clear hg
  have hT:RatsTo g w1 n xs 0:=⟨_,hown,fun i hi=>by omega⟩
  have HT:=hid hT;clear hT
  have HH:=hid (And.intro hown hgrow);clear hgrow hown
  go_wp2
  go_loopw [4] (fun i wr=>∃ k:Nat,i=.int .i64 k∧k≤n∧RatsTo g wr n xs k∧Below g w1 wr) (fun i _=>n - (intOf i).toNat)
  case atStart=>exact ⟨0,rfl,by omega,HT.out,Below.refl _ _⟩
  case round =>
    obtain ⟨k,rfl,hk2,hvs,hbr⟩:=hrel
    have HV:=hid hvs;clear hvs
    have HB:=hid hbr;clear hbr
    by_cases hlt:k<n
    · have hb':Below w.heap.size w wr:=hb.trans (HB.out.mono (by rw [HG.out];exact Nat.le_refl _))
      have hIr:=beRats hI hb' hh
      obtain ⟨b,off,rfl⟩:=ratsSome hIr (by omega)
      obtain ⟨_,_,i1,i2,d0,d1,_⟩:=ratsAt hIr hlt
      have hgr:g<wr.heap.size:=by have:=HB.out.size;omega
      have HB':=hid hb';clear hb'
      have HI:=hid (And.intro hIr (And.intro i1 i2));clear hIr i1 i2
      go_wp2_with fail
      refine (toRat1 (qx xs k).num (qx xs k).den wr HI.out.2.1 HI.out.2.2).mono ?_
      rintro e w2 ⟨rfl,hb2⟩
      obtain ⟨hP,hP2,⟨v0,hcell⟩,⟨v1,hcell1⟩,hfz,hfz1⟩:=HV.out.put hlt hgr hb2
      have HP:=hid hP;clear hP
      have HP2:=hid hP2;clear hP2
      have HB2:=hid hb2;clear hb2
      go_wp2
      go_roundw
      case rel=>exact ⟨k+1,by go_num,by omega,HP.out,HB.out.trans HP2.out⟩
      case measure=>simp [intOf];omega
    · go_wp2
      go_ret
      have hb':Below w.heap.size w wr:=hb.trans (HB.out.mono (by rw [HG.out];exact Nat.le_refl _))
      refine ⟨_,n,n,rfl,?_,hb'⟩
      obtain ⟨vs,ho,hv⟩:=HV.out
      have hgr:g<wr.heap.size:=by have:=HB.out.size;omega
      refine ratsMk HL.out (Nat.le_refl _) (by unfold maxLen;omega) (by rw [HG.out];exact Nat.le_refl _) hgr fun i hi=>?_
      obtain ⟨g1,g2⟩:=hv i (by omega)
      have h64:=ratsI64 hI hi
      have c1:=ho.cells (g:=g) rfl (i*2) _ g1
      have c2:=ho.cells (g:=g) rfl (i*2+1) _ g2
      rw [Addr.add_lit] at c1 c2
      exact ⟨h64.1,h64.2,by simpa using c1,by simpa [Nat.add_assoc] using c2,fun _=>⟨ho.frozenAt _,ho.frozenAt _⟩⟩
theorem infoRatS:(Try.prog.info? 29).map (fun i=>(i.zero,i.size,i.bytes))=some (some (.slice none 0 0),1,24):=by kernel_rfl
def GvMat (w:World) (xss:List (List RatD)) (e:Ending) (w':World):Prop :=
  ∃ a n c,e=.returned (.slice a n c)∧MatA true w.heap.size w'.heap.size w' a n c xss∧Below w.heap.size w w'
def MatTo (g:Nat) (w:World) (n:Nat) (xss:List (List RatD)) (k:Nat):Prop :=
  ∃ vs,w.ownsRow g 29 1 (.slice (some ⟨g,0,none⟩) n n) n vs∧∀ i,i<k→∃ ra rn rc,vs[i]? = some (.slice ra rn rc)∧RatsA true (g+1) w.heap.size w ra rn rc (mx xss i)
theorem MatTo.put {g:Nat} {w w1:World} {n:Nat} {xss:List (List RatD)} {k:Nat} (h:MatTo g w n xss k) (hk:k<n) (hg:g<w.heap.size) (hb:Below w.heap.size w w1) {ra:Option Addr} {rn rc:Nat}
    (hr:RatsA true w.heap.size w1.heap.size w1 ra rn rc (mx xss k)):MatTo g (w1.setCell ⟨g,k,none⟩ (.slice ra rn rc)) n xss (k+1)∧Below g w (w1.setCell ⟨g,k,none⟩ (.slice ra rn rc)) ∧
      (∃ v0,w1.cell? ⟨g,k,none⟩=some v0)∧w1.frozen? ⟨g,k,none⟩=false:=by
  obtain ⟨vs,ho,hv⟩:=h
  have hlen:vs.length=n:=by have:=ho.1;omega
  have ho1:w1.ownsRow g 29 1 (.slice (some ⟨g,0,none⟩) n n) n vs:=ho.kept (row:=none) ⟨hb.os,hb.tape,hb.output,hb.size,fun k hk _=>hb.block k hk⟩ (.inr (by simp [Value.ownBlock]))
  obtain ⟨hs1,hs2⟩:=ho1.stored k (.slice ra rn rc)
  have hsz:(w1.setCell ⟨g,k,none⟩ (.slice ra rn rc)).heap.size=w1.heap.size:=by simp [World.setCell]
  have hbs:=hb.size
  have hset:Keeps (g+1) w1.heap.size w1 (w1.setCell ⟨g,k,none⟩ (.slice ra rn rc)):=fun j h1 h2=>hs2.block j h2 (by intro e;cases e;omega)
  refine ⟨⟨_,hs1,fun i hi=>?_⟩,(hb.mono (by omega)).grown hs2 (by omega) (fun j hj=>by cases hj;exact Nat.le_refl _),?_,ho1.frozenAt k⟩
  · by_cases e:i=k
    · subst e
      exact ⟨ra,rn,rc,by simp [hlen,hk],by rw [hsz];exact kpRats (wdRats hr (by omega)) hset⟩
    · obtain ⟨ra',rn',rc',g1,g2⟩:=hv i (by omega)
      exact ⟨ra',rn',rc',by rw [List.getElem?_set_ne (by omega)];exact g1,by
        rw [hsz];exact kpRats (hgRats (kpRats g2 (Keeps.of_below hb (Nat.le_refl _))) hbs) hset⟩
  · have:=ho1.cells (g:=g) rfl k vs[k] (by simp [hlen,hk])
    rw [Addr.add_lit] at this;exact ⟨_,by simpa using this⟩
set_option maxHeartbeats 800000 in
theorem toMat {lo hi:Nat} (a:Option Addr) (n c:Nat) (xss:List (List RatD)) (w:World) (hI:MatA false lo hi w a n c xss) (hh:hi≤w.heap.size) (hs:matSz xss≤1048576) :
    Calls Try.prog 27 #[.slice a n c] w (GvMat w xss):=by
  have hl:=hI.len
  have hn:n≤1048576:=by unfold matSz at hs;omega
  have HL:=hid hl;clear hl
  have HS:=hid hs;clear hs
  obtain ⟨i0,hi0,hz0,hz1,hz2⟩:=info_parts infoRatS
  go_enter Try.func27,Try.ntmps27
  go_wp2_with (at_make;refine wpList_make_full _ rfl _ _ 27 rfl w.heap.size 29 i0 (.slice none 0 0) 1 Try.underlying27 hi0 hz0 hz1 _ _ _ _ n rfl rfl rfl rfl ?b1 ?b2 ?b3 ?_)
  case b1=>rw [hz2];omega
  case b2=>unfold maxLen;omega
  case b3=>exact Nat.le_refl _
  intro w1 hown hgrow
  have hb:Below w.heap.size w w1:=(Below.refl _ _).grown hgrow (Nat.le_refl _) (fun k h=>by cases h)
  obtain ⟨g,hg⟩:∃ g,g=w.heap.size:=⟨_,rfl⟩
  rw [← hg] at hown ⊢
  have hgw:g<w1.heap.size:=by
    have:=hown.lt g rfl;exact this.2
  have HG:=hid hg;clear hg
  have hT:MatTo g w1 n xss 0:=⟨_,hown,fun i hi=>by omega⟩
  have HT:=hid hT;clear hT
  have HH:=hid (And.intro hown hgrow);clear hgrow hown
  go_wp2
  go_loopw [4] (fun i wr=>∃ k:Nat,i=.int .i64 k∧k≤n∧MatTo g wr n xss k∧Below g w1 wr) (fun i _=>n - (intOf i).toNat)
  case atStart=>exact ⟨0,rfl,by omega,HT.out,Below.refl _ _⟩
  case round =>
    obtain ⟨k,rfl,hk2,hvs,hbr⟩:=hrel
    have HV:=hid hvs;clear hvs
    have HB:=hid hbr;clear hbr
    by_cases hlt:k<n
    · have hb':Below w.heap.size w wr:=hb.trans (HB.out.mono (by rw [HG.out];exact Nat.le_refl _))
      have hIr:=beMat hI hb' hh
      obtain ⟨b,off,rfl⟩:=matSome hIr (by omega)
      obtain ⟨_,_,ra,rn,rc,hc,hr,_⟩:=matAt hIr hlt
      have hhi:hi≤wr.heap.size:=by have:=hb'.size;omega
      have hgr:g<wr.heap.size:=by have:=HB.out.size;omega
      have HSR:Hid ((mx xss k).length≤1048576):=hid (matSz_at HS.out (by rw [HL.out];exact hlt))
      have HB':=hid hb';clear hb'
      have HI:=hid (And.intro hIr hr);clear hr hIr
      go_wp2_with fail
      refine (toRats ra rn rc _ wr HI.out.2 hhi HSR.out).mono ?_
      rintro e w2 ⟨a2,n2,c2,rfl,ho2,hb2⟩
      obtain ⟨hP,hP2,⟨v0,hcell⟩,hfz⟩:=HV.out.put hlt hgr hb2 ho2
      have HP:=hid hP;clear hP
      have HP2:=hid hP2;clear hP2
      have HB2:=hid (And.intro hb2 ho2);clear hb2 ho2
      go_wp2
      go_roundw
      case rel=>exact ⟨k+1,by go_num,by omega,HP.out,HB.out.trans HP2.out⟩
      case measure=>simp [intOf];omega
    · go_wp2
      go_ret
      have hb':Below w.heap.size w wr:=hb.trans (HB.out.mono (by rw [HG.out];exact Nat.le_refl _))
      refine ⟨_,n,n,rfl,?_,hb'⟩
      obtain ⟨vs,ho,hv⟩:=HV.out
      have hgr:g<wr.heap.size:=by have:=HB.out.size;omega
      refine ⟨HL.out,Nat.le_refl _,by unfold maxLen;omega,fun _=>⟨g,0,rfl,by rw [HG.out];exact Nat.le_refl _,hgr,fun i hi=>?_⟩,fun h=>(by cases h)⟩
      obtain ⟨ra,rn,rc,g1,g2⟩:=hv i (by omega)
      refine ⟨[.slice ra rn rc],mx xss i,rfl,?_,⟨ra,rn,rc,rfl,wdRats g2 (by rw [← HG.out];omega)⟩,fun j hj=>?_⟩
      · rw [mx_lt (by rw [HL.out];exact hi)];simp [HL.out,hi]
      · obtain rfl:j=0:=by omega
        have:=ho.cells (g:=g) rfl i _ g1
        rw [Addr.add_lit] at this
        exact ⟨by simpa using this,fun _=>ho.frozenAt _⟩
end Go.Proofs.Ytpbclpopoodklaa
