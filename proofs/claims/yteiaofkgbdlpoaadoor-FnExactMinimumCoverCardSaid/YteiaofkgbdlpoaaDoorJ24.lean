/- Lemmas for the proof of FnExactMaximumPacking, part 24 of 27: no condition of their own. -/
import Derived.Test.YteiaofkgbdlpoaaDoorJ23
import Derived.Test.YteiaofkgbdlpoaaDoorJ8
namespace Go.Proofs.YteiaofkgbdlpoaaDoor
set_option linter.unusedSimpArgs false
set_option linter.unusedVariables false
open Go.RowKit
set_option maxRecDepth 100000 in
set_option maxHeartbeats 6400000 in
theorem specValidQ {fz:Bool} {lo hi:Nat} (nv:Int) (a:Option Addr) (n c:Nat) (xs:List AtomD) (ua:Option Addr) (un uc:Nat) (us:List Int) (w:World) (hI:QueryA fz lo hi w nv a n c xs ua un uc us) (hh:hi≤w.heap.size) :
 Calls Tryd.prog 25 #[queryV nv a n c ua un uc] w (Leaves w (.bool (qOK nv xs us))):=by
 have hlx:=hI.2.1.len
 have hsx:=hI.2.1.small
 have hsu:=hI.2.2.small
 have hlu:=hI.2.2.len
 have huc:=hI.2.2.2.1
 have hum:=hI.2.2.2.2.1
 have HL:=hid (And.intro hlx hlu);clear hlx hlu
 obtain ⟨W,hW⟩:∃ W,W=w.alloc (.cells #[.int .i64 nv,.slice a n c,.slice ua un uc] 35):=⟨_,rfl⟩
 have hBW:Below w.heap.size w W:=by rw [hW];exact belA
 have hz:w.heap.size<W.heap.size:=by rw [hW];simp
 have c0:W.cell? ⟨w.heap.size,0,none⟩=some (.int .i64 nv):=by rw [hW];simp
 have c1:W.cell? ⟨w.heap.size,1,none⟩=some (.slice a n c):=by rw [hW];simp
 have c2:W.cell? ⟨w.heap.size,2,none⟩=some (.slice ua un uc):=by rw [hW];simp
 have HI:=hid (beQuery hI hBW hh)
 have HW:=hid (And.intro hW hBW);clear hW hBW hI
 by_cases h1:1≤nv∧nv≤5
 ·have hd1:decide (1≤nv∧nv≤5)=true:=by simpa using h1
  obtain ⟨m,rfl⟩:=Int.eq_ofNat_of_zero_le (show 0≤nv by omega)
  have hm1:1≤m:=by omega
  have hm5:m≤5:=by omega
  by_cases h2:(1:Int)≤n∧(n:Int)≤4
  ·have hd2:decide ((1:Int)≤n∧(n:Int)≤4)=true:=by simpa using h2
   by_cases h3:un≤m
   ·have HHD:Hid (HeadOK m xs.length):=hid ⟨h1,by have:=HL.out.1;omega⟩
    have hn4:n≤4:=by omega
    have H12:=hid (And.intro h1 h2);clear h1 h2
    have hw1:IntKind.i64.wrap ((m:Int) - 1)=(m:Int) - 1:=IntWalk.i64_in _ (by omega)
    go_enter Tryd.func25,Tryd.ntmps25
    go_upto_region 1 with fail
    rw [← HW.out.1]
    go_wp2_with fail
    refine (specIn (m:Int) 1 5 _).mono ?_
    rintro e w1 ⟨rfl,m1,rfl⟩
    rw [hd1]
    go_wp2_with fail
    refine (specIn (n:Int) 1 4 _).mono ?_
    rintro e w2 ⟨rfl,m2,rfl⟩
    rw [hd2]
    go_wp2_with fail
    simp only [show ∀ (inst:Decidable (m<un)),@decide (m<un) inst=false from fun inst=>decide_eq_false (by omega)]
    go_loopw [3] (fun s wr=>∃ i:Nat,s=.int .i64 i∧i≤n∧Hid (∀ j,j<i→AtomOK m (ax xs j))∧Hid (Below W.heap.size W wr)) (fun s _=>n - (intOf s).toNat)
    case atStart=>exact ⟨0,rfl,by omega,hid (fun j hj=>by omega),hid belA⟩
    case round =>
     obtain ⟨i,rfl,hin,HAO,HB⟩:=hrel
     have hzr:=HB.out.size
     have d0:wr.cell? ⟨w.heap.size,0,none⟩=some (.int .i64 m):=by rw [(bcell HB.out).1 _ _ hz];exact c0
     have d1:wr.cell? ⟨w.heap.size,1,none⟩=some (.slice a n c):=by rw [(bcell HB.out).1 _ _ hz];exact c1
     by_cases hlt:i<n
     ·have hAr:=beAtoms HI.out.2.1 HB.out (by omega)
      obtain ⟨b,off,rfl⟩:=atomsSome hAr (by omega)
      obtain ⟨_,_,hsz,ra,rn,rc,y0,y1,hr,_⟩:=atomsAt hAr hlt
      have hrl:=hr.len
      have hrs:=hr.small
      have HR:=hid (And.intro hAr hr);clear hAr hr
      have HRL:=hid hrl;clear hrl
      obtain ⟨nb,hnb⟩:∃ nb,nameOK (ax xs i).nm=nb:=⟨_,rfl⟩
      have HNB:=hid hnb;clear hnb
      obtain ⟨nm,hnm⟩:∃ nm,nm=(ax xs i).nm:=⟨_,rfl⟩
      rw [← hnm] at y0 hsz
      have HNM:=hid hnm;clear hnm
      have HFA:=hid (fun (hn:¬ AtomOK m (ax xs i))=>qOK_atom (us:=us) (by rw [HL.out.1];exact hlt) hn)
      have HNC:=hid (fun w'=>by have:=specName nm w' hsz;rwa [show nameOK nm=nb by rw [HNM.out];exact HNB.out] at this)
      cases nb with
      | false =>
       have HF:=hid (HFA.out (fun g=>by have:=g.1;rw [HNB.out] at this;cases this))
       go_wp2_with fail
       refine (HNC.out _).mono ?_
       rintro e w5 ⟨rfl,hb5⟩
       have HB5:=hid (Below.calm HB.out hb5);clear hb5
       go_wp2_with fail
       go_ret
       exact ⟨by rw [HF.out];rfl,HW.out.2.trans (HB5.out.mono (by omega))⟩
      | true =>
       go_wp2_with fail
       refine (HNC.out _).mono ?_
       rintro e w5 ⟨rfl,hb5⟩
       have hzz:w.heap.size<wr.heap.size:=by omega
       have hbw:b<wr.heap.size:=World.block_lt_of_cell? _ _ y0
       replace d0:w5.cell? ⟨w.heap.size,0,none⟩=some (.int .i64 m):=by rw [(bcell hb5).1 _ _ hzz];exact d0
       replace d1:w5.cell? ⟨w.heap.size,1,none⟩=some (.slice (some ⟨b,off,none⟩) n c):=by rw [(bcell hb5).1 _ _ hzz];exact d1
       replace y1:w5.cell? ⟨b,off+i*2+1,none⟩=some (.slice ra rn rc):=by rw [(bcell hb5).1 _ _ hbw];exact y1
       have HB5:=hid (Below.calm HB.out hb5)
       have HR5:=hid (beInts HR.out.2 hb5 (by omega))
       clear hb5 y0
       by_cases h5:(1:Int)≤rn∧(rn:Int)≤5
       ·have hd5:decide ((1:Int)≤rn∧(rn:Int)≤5)=true:=by simpa using h5
        have H5:=hid h5;clear h5
        go_wp2_with fail
        refine (specIn (rn:Int) 1 5 _).mono ?_
        rintro e w6 ⟨rfl,m6,rfl⟩
        rw [hd5]
        go_wp2_with fail
        go_loopw [4] (fun s wr=>∃ j:Nat,s=.int .i64 j∧j≤rn∧Hid (∀ q,q<j→0≤ix (ax xs i).vs q∧ix (ax xs i).vs q≤(m:Int) - 1)∧Hid (∃ q,wr=w5.drewN q)) (fun s _=>rn - (intOf s).toNat)
        case atStart=>exact ⟨0,rfl,by omega,hid (fun q hq=>by omega),hid ⟨_,rfl⟩⟩
        case round =>
         obtain ⟨j,rfl,hj,HVV,HD⟩:=hrel
         have d0':wr.cell? ⟨w.heap.size,0,none⟩=some (.int .i64 m):=by obtain ⟨q,rfl⟩:=HD.out;exact d0
         have d1':wr.cell? ⟨w.heap.size,1,none⟩=some (.slice (some ⟨b,off,none⟩) n c):=by obtain ⟨q,rfl⟩:=HD.out;exact d1
         have y1':wr.cell? ⟨b,off+i*2+1,none⟩=some (.slice ra rn rc):=by obtain ⟨q,rfl⟩:=HD.out;exact y1
         have hbx:∀ q,Below W.heap.size W (wr.drewN q):=by obtain ⟨q,rfl⟩:=HD.out;exact fun q'=>below_drewN (below_drewN HB5.out _) _
         have HBX:=hid hbx;clear hbx
         by_cases hltj:j<rn
         ·obtain ⟨vb,vo,rfl,x0,_⟩:=intsAtB (kpInts HR5.out (keeps_dr _ _ HD.out)) hltj
          obtain ⟨x,hx⟩:∃ x,ix (ax xs i).vs j=x:=⟨_,rfl⟩
          rw [hx] at x0
          have hcI:=hid (fun w'=>specIn x 0 ((m:Int) - 1) w')
          by_cases h6:0≤x∧x≤(m:Int) - 1
          ·have HC:Hid (∀ w',Calls Tryd.prog 46 #[.int .i64 x,.int .i64 0,.int .i64 ((m:Int) - 1)] w' (Gives w' (.bool true))):=hid (fun w'=>by have:=hcI.out w';rwa [show decide (0≤x∧x≤(m:Int) - 1)=true by simpa using h6] at this)
           have HVV2:Hid (∀ q,q<j+1→0≤ix (ax xs i).vs q∧ix (ax xs i).vs q≤(m:Int) - 1):=hid (fun q' hq'=>by
            by_cases e:q'=j
            ·subst e;rw [hx];exact h6
            ·exact HVV.out q' (by omega))
           have H6:=hid (And.intro h6 hx);clear h6 hx
           go_wp2_with fail
           go_quiet ((go_at_call 46;exact (Calls.quiet_of (HC.out _))))
           go_wp2_with fail
           go_roundw
           case rel=>exact ⟨j+1,by go_num,by omega,HVV2,hid (by first | exact HD.out | exact dr_more HD.out _ | (rw [dd];exact dr_more HD.out _) | (rw [dd,dd];exact dr_more HD.out _) | exact ⟨_,rfl⟩ | exact ⟨_,dd⟩)⟩
           case measure=>simp [intOf];omega
          ·have HC:Hid (∀ w',Calls Tryd.prog 46 #[.int .i64 x,.int .i64 0,.int .i64 ((m:Int) - 1)] w' (Gives w' (.bool false))):=hid (fun w'=>by have:=hcI.out w';rwa [show decide (0≤x∧x≤(m:Int) - 1)=false by simpa using h6] at this)
           have HF:=hid (HFA.out (fun g=>h6 (by have:=g.2.2 j (by rw [HRL.out];exact hltj);rwa [hx] at this)))
           have H6:=hid (And.intro h6 hx);clear h6 hx
           go_wp2_with fail
           go_quiet ((go_at_call 46;exact (Calls.quiet_of (HC.out _))))
           go_wp2_with fail
           go_ret
           exact ⟨by rw [HF.out];rfl,HW.out.2.trans ((HBX.out _).mono (by omega))⟩
         ·have HAO2:Hid (∀ q,q<i+1→AtomOK m (ax xs q)):=hid (fun q hq=>by
           by_cases e:q=i
           ·subst e;exact ⟨HNB.out,by have:=HRL.out;have:=H5.out;omega,fun t ht=>HVV.out t (by have:=HRL.out;omega)⟩
           ·exact HAO.out q (by omega))
          go_wp2_with fail
          go_roundw
          case rel=>exact ⟨i+1,by go_num,by omega,HAO2,hid (HBX.out 0)⟩
          case measure=>simp [intOf];omega
       ·have hd5:decide ((1:Int)≤rn∧(rn:Int)≤5)=false:=by simpa using h5
        have HF:=hid (HFA.out (fun g=>h5 (by have g2:=g.2.1;have:=HRL.out;omega)))
        have H5:=hid h5;clear h5
        go_wp2_with fail
        refine (specIn (rn:Int) 1 5 _).mono ?_
        rintro e w6 ⟨rfl,m6,rfl⟩
        rw [hd5]
        go_wp2_with fail
        go_ret
        exact ⟨by rw [HF.out];rfl,HW.out.2.trans ((below_drewN HB5.out _).mono (by omega))⟩
     ·have HAE:Hid (∀ j,j<xs.length→AtomOK m (ax xs j)):=hid (fun j hj=>HAO.out j (by have:=HL.out.1;omega))
      have HBA:=hid (HW.out.2.trans (HB.out.mono (show w.heap.size≤W.heap.size by omega)))
      have HIA:=hid (beQuery HI.out HB.out (by omega))
      obtain ⟨wz,hwz⟩:∃ wz,wz=wr.heap.size:=⟨_,rfl⟩
      have hzz:w.heap.size<wz:=by omega
      go_wp2_with fail
      go_loopw [5] (fun s w2=>∃ v:Nat,s=.int .i64 v∧v≤m∧Hid (∀ u,u<v→∃ i,i<xs.length∧occ (ax xs i).vs u=true)∧Hid (Below W.heap.size W w2)) (fun s _=>m - (intOf s).toNat)
      case atStart=>exact ⟨0,rfl,by omega,hid (fun j hj=>by omega),HB⟩
      case round =>
       obtain ⟨v,rfl,hv,HCV,HB2⟩:=hrel
       have hz2:=HB2.out.size
       have e0:wr.cell? ⟨w.heap.size,0,none⟩=some (.int .i64 m):=by rw [(bcell HB2.out).1 _ _ hz];exact c0
       have e2:wr.cell? ⟨w.heap.size,2,none⟩=some (.slice ua un uc):=by rw [(bcell HB2.out).1 _ _ hz];exact c2
       by_cases hlt2:v<m
       ·go_wp2_with fail
        go_loopw [6,7] (fun s6 s7 w3=>∃ (b:Bool) (k:Nat),s6=.bool b∧s7=.int .i64 k∧k≤n∧Hid (b=true↔∃ i',i'<k∧occ (ax xs i').vs v=true)∧Hid (Below W.heap.size W w3)) (fun _ s _=>n - (intOf s).toNat)
        case atStart=>exact ⟨false,0,rfl,rfl,by omega,hid (by simp),HB2⟩
        case round =>
         obtain ⟨b,k,rfl,rfl,hk,HBK,HB3⟩:=hrel
         have hz3:=HB3.out.size
         have f0:wr.cell? ⟨w.heap.size,0,none⟩=some (.int .i64 m):=by rw [(bcell HB3.out).1 _ _ hz];exact c0
         have f1:wr.cell? ⟨w.heap.size,1,none⟩=some (.slice a n c):=by rw [(bcell HB3.out).1 _ _ hz];exact c1
         by_cases hlt3:k<n
         ·cases b with
          | true =>
           have HBK2:Hid (true=true↔∃ i',i'<k+1∧occ (ax xs i').vs v=true):=hid ⟨fun _=>by obtain ⟨i',h1,h2⟩:=HBK.out.1 rfl;exact ⟨i',by omega,h2⟩,fun _=>rfl⟩
           go_wp2_with fail
           go_roundw
           case rel=>exact ⟨true,k+1,rfl,by go_num,by omega,HBK2,HB3⟩
           case measure=>simp [intOf];omega
          | false =>
           have hAr:=beAtoms HI.out.2.1 HB3.out (by omega)
           obtain ⟨b,off,rfl⟩:=atomsSome hAr (by omega)
           obtain ⟨_,_,hsz,ra,rn,rc,y0,y1,hr,_⟩:=atomsAt hAr hlt3
           have HR:=hid hr;clear hr hAr
           obtain ⟨nm,hnm⟩:∃ nm,nm=(ax xs k).nm:=⟨_,rfl⟩
           rw [← hnm] at y0 hsz
           have HNM:=hid hnm;clear hnm
           obtain ⟨ob,hob⟩:∃ ob,occ (ax xs k).vs v=ob:=⟨_,rfl⟩
           have HBK2:Hid (ob=true↔∃ i',i'<k+1∧occ (ax xs i').vs v=true):=hid ⟨fun h=>⟨k,by omega,by rw [hob];exact h⟩,fun ⟨i',h1,h2⟩=>by
            by_cases e:i'=k
            ·subst e;rw [← hob];exact h2
            ·exact absurd (HBK.out.2 ⟨i',by omega,h2⟩) (by simp)⟩
           have HOB:=hid hob;clear hob
           go_wp2_with fail
           refine (specHasVar nm ra rn rc (ax xs k).vs (v:Int) _ HR.out (by omega)).mono ?_
           rintro e w5 ⟨rfl,hb5⟩
           rw [HOB.out]
           have HB5:=hid (Below.calm HB3.out hb5);clear hb5
           go_wp2_with fail
           go_roundw
           case rel=>exact ⟨ob,k+1,rfl,by go_num,by omega,HBK2,HB5⟩
           case measure=>simp [intOf];omega
         ·cases b with
          | true =>
           have HCV2:Hid (∀ u,u<v+1→∃ i,i<xs.length∧occ (ax xs i).vs u=true):=hid (fun u hu=>by
            by_cases e:u=v
            ·subst e;obtain ⟨i',h1,h2⟩:=HBK.out.1 rfl;exact ⟨i',by have:=HL.out.1;omega,h2⟩
            ·exact HCV.out u (by omega))
           go_wp2_with fail
           go_roundw
           case rel=>exact ⟨v+1,by go_num,by omega,HCV2,HB3⟩
           case measure=>simp [intOf];omega
          | false =>
           have HF:=hid (qOK_cov (us:=us) (show ¬ CovOK (m:Int) xs from fun g=>by obtain ⟨i,hi,ho⟩:=g v (by omega);exact absurd (HBK.out.2 ⟨i,by have:=HL.out.1;omega,ho⟩) (by simp)))
           go_wp2_with fail
           go_ret
           exact ⟨by rw [HF.out];rfl,HW.out.2.trans (HB3.out.mono (by omega))⟩
       ·have HCO:Hid (CovOK m xs):=hid (fun u hu=>HCV.out u (by omega))
        have HO:=hid (beInts HI.out.2.2 HB2.out (by omega))
        go_wp2_with fail
        go_loopw [8] (fun s w4=>∃ j:Nat,s=.int .i64 j∧j≤un∧Hid (SetTo us m j)∧Hid (∃ q,w4=wr.drewN q)) (fun s _=>un - (intOf s).toNat)
        case atStart=>exact ⟨0,rfl,by omega,hid (fun q hq=>by omega),hid ⟨0,rfl⟩⟩
        case round =>
         obtain ⟨j,rfl,hj,HST,HD⟩:=hrel
         have g0:wr.cell? ⟨w.heap.size,0,none⟩=some (.int .i64 m):=by obtain ⟨q,rfl⟩:=HD.out;exact e0
         have g2:wr.cell? ⟨w.heap.size,2,none⟩=some (.slice ua un uc):=by obtain ⟨q,rfl⟩:=HD.out;exact e2
         have hbx:∀ q,Below W.heap.size W (wr.drewN q):=by obtain ⟨q,rfl⟩:=HD.out;exact fun q'=>below_drewN (below_drewN HB2.out _) _
         have HBX:=hid hbx;clear hbx
         by_cases hltj:j<un
         ·have HOj:=hid (kpInts HO.out (keeps_dr _ _ HD.out))
          have HJ:=hid (HOj.out.take (j:=j) (by omega))
          obtain ⟨vb,vo,rfl,x0,hx6⟩:=intsAtB HOj.out hltj
          obtain ⟨x,hx⟩:∃ x,ix us j=x:=⟨_,rfl⟩
          rw [hx] at x0 hx6
          have HX:=hid hx;clear hx
          have hcI:=hid (fun w'=>specIn x 0 ((m:Int) - 1) w')
          by_cases h6:0≤x∧x≤(m:Int) - 1
          ·have HC:Hid (∀ w',Calls Tryd.prog 46 #[.int .i64 x,.int .i64 0,.int .i64 ((m:Int) - 1)] w' (Gives w' (.bool true))):=hid (fun w'=>by have:=hcI.out w';rwa [show decide (0≤x∧x≤(m:Int) - 1)=true by simpa using h6] at this)
           obtain ⟨f,hfe⟩:∃ f,findF (us.take j) x=f:=⟨_,rfl⟩
           have HCF:Hid (∀ w',IntsA fz lo hi w' (some ⟨vb,vo,none⟩) j uc (us.take j)→Calls Tryd.prog 48 #[.slice (some ⟨vb,vo,none⟩) j uc,.int .i64 x] w' (Gives w' (.int .i64 f))):=hid (fun w' h=>by have:=specFind _ j uc (us.take j) x w' h;rwa [hfe] at this)
           by_cases hf:0≤f
           ·have HF:=hid (qOK_set (nv:=(m:Int)) (xs:=xs) (us:=us) (fun g=>(g j (by rw [HL.out.2];exact hltj)).2 (by rw [HX.out,hfe];exact hf)))
            have H6:=hid h6;clear h6 hfe
            go_wp2_with fail
            go_quiet (first
             | (go_at_call 46;exact (Calls.quiet_of (HC.out _)))
             | (go_at_call 48;exact (Calls.quiet_of (HCF.out _ (HJ.out.drewN _)))))
            go_wp2_with fail
            go_ret
            exact ⟨by rw [HF.out];rfl,HW.out.2.trans ((HBX.out _).mono (by omega))⟩
           ·have HST2:=hid (HST.out.succ (by rw [HX.out,hfe];exact ⟨h6,hf⟩))
            have H6:=hid h6;clear h6 hfe
            go_wp2_with fail
            go_quiet (first
             | (go_at_call 46;exact (Calls.quiet_of (HC.out _)))
             | (go_at_call 48;exact (Calls.quiet_of (HCF.out _ (HJ.out.drewN _)))))
            go_wp2_with fail
            go_roundw
            case rel=>exact ⟨j+1,by go_num,by omega,HST2,hid (by first | exact HD.out | exact dr_more HD.out _ | (rw [dd];exact dr_more HD.out _) | (rw [dd,dd];exact dr_more HD.out _) | exact ⟨_,rfl⟩ | exact ⟨_,dd⟩)⟩
            case measure=>simp [intOf];omega
          ·have HC:Hid (∀ w',Calls Tryd.prog 46 #[.int .i64 x,.int .i64 0,.int .i64 ((m:Int) - 1)] w' (Gives w' (.bool false))):=hid (fun w'=>by have:=hcI.out w';rwa [show decide (0≤x∧x≤(m:Int) - 1)=false by simpa using h6] at this)
           have HF:=hid (qOK_set (nv:=(m:Int)) (xs:=xs) (us:=us) (fun g=>h6 (by have:=(g j (by rw [HL.out.2];exact hltj)).1;rwa [HX.out] at this)))
           have H6:=hid h6;clear h6
           go_wp2_with fail
           go_quiet ((go_at_call 46;exact (Calls.quiet_of (HC.out _))))
           go_wp2_with fail
           go_ret
           exact ⟨by rw [HF.out];rfl,HW.out.2.trans ((HBX.out _).mono (by omega))⟩
         ·have HF:=hid (qOK_yes HHD.out (show SetTo us (m:Int) us.length by have:=HST.out;rwa [show j=us.length by have:=HL.out.2;omega] at this) HAE.out HCO.out)
          go_wp2_with fail
          go_ret
          exact ⟨by rw [HF.out];rfl,HW.out.2.trans ((HBX.out 0).mono (by omega))⟩
   ·have HF:=hid (qOK_long (nv:=(m:Int)) (xs:=xs) (us:=us) (by omega) (by have:=HL.out.2;omega))
    have H12:=hid (And.intro h1 h2);clear h1 h2
    go_enter Tryd.func25,Tryd.ntmps25
    go_upto_region 1 with fail
    rw [← HW.out.1]
    go_wp2_with fail
    refine (specIn (m:Int) 1 5 _).mono ?_
    rintro e w1 ⟨rfl,m1,rfl⟩
    rw [hd1]
    go_wp2_with fail
    refine (specIn (n:Int) 1 4 _).mono ?_
    rintro e w2 ⟨rfl,m2,rfl⟩
    rw [hd2]
    go_wp2_with fail
    go_ret
    first | exact ⟨by rw [HF.out];rfl,below_drewN HW.out.2 _⟩ | exact ⟨by rw [HF.out];rfl,below_drewN (below_drewN HW.out.2 _) _⟩
  ·have hd2:decide ((1:Int)≤n∧(n:Int)≤4)=false:=by simpa using h2
   have HF:=hid (qOK_head (nv:=(m:Int)) (xs:=xs) (us:=us) (fun g=>h2 (by have:=g.2;have:=HL.out.1;omega)))
   have H12:=hid (And.intro h1 h2);clear h1 h2
   go_enter Tryd.func25,Tryd.ntmps25
   go_upto_region 1 with fail
   rw [← HW.out.1]
   go_wp2_with fail
   refine (specIn (m:Int) 1 5 _).mono ?_
   rintro e w1 ⟨rfl,m1,rfl⟩
   rw [hd1]
   go_wp2_with fail
   refine (specIn (n:Int) 1 4 _).mono ?_
   rintro e w2 ⟨rfl,m2,rfl⟩
   rw [hd2]
   go_wp2_with fail
   go_ret
   first | exact ⟨by rw [HF.out];rfl,below_drewN HW.out.2 _⟩ | exact ⟨by rw [HF.out];rfl,below_drewN (below_drewN HW.out.2 _) _⟩
 ·have hd1:decide (1≤nv∧nv≤5)=false:=by simpa using h1
  have HF:=hid (qOK_head (xs:=xs) (us:=us) (fun g=>h1 g.1))
  go_enter Tryd.func25,Tryd.ntmps25
  go_upto_region 1 with fail
  rw [← HW.out.1]
  go_wp2_with fail
  refine (specIn nv 1 5 _).mono ?_
  rintro e w1 ⟨rfl,m1,rfl⟩
  rw [hd1]
  go_wp2_with fail
  go_ret
  exact ⟨by rw [HF.out];rfl,below_drewN HW.out.2 _⟩
end Go.Proofs.YteiaofkgbdlpoaaDoor
namespace Go.Proofs.YteiaofkgbdlpoaaDoor
set_option linter.unusedSimpArgs false
set_option linter.unusedVariables false
open Go.RowKit
noncomputable def awTo (xs:List AtomD) (v:Int) (k:Nat):List Int:=((List.range k).filter fun i=>occ (ax xs i).vs v).map fun (i:Nat)=>(i:Int)
noncomputable def awF (nv:Int) (xs:List AtomD) (us:List Int) (v:Int):List Int:=if qOK nv xs us=true then awTo xs v xs.length else []
noncomputable def degF (nv:Int) (xs:List AtomD) (us:List Int) (v:Int):Nat:=(awF nv xs us v).length
end Go.Proofs.YteiaofkgbdlpoaaDoor
namespace Go.Proofs.YteiaofkgbdlpoaaDoor
set_option linter.unusedSimpArgs false
set_option linter.unusedVariables false
open Go.RowKit
abbrev atomDV (x:AtomD):DV:=.agg [.str x.nm,intsD x.vs]
abbrev queryD (nv:Int) (xs:List AtomD) (us:List Int):DV:=.agg [.int nv,.sl 2 (xs.map atomDV),intsD us]
def NmOK (xs:List AtomD):Prop:=∀ x∈xs,x.nm.size≤9223372036854775807
theorem cv_atom {G:Gh} {w:World} {x:AtomD} {v:Value} (hC:∀ b i,G.C b i→b<w.heap.size) (h:CV G w (.d (atomDV x)) v):∃ a n c,v=atomV x.nm a n c∧IntsA false 0 w.heap.size w a n c x.vs:=by
 obtain ⟨us,⟨u1,r1,rfl,rfl,u2,r2,rfl,h2,rfl⟩,rfl⟩:=cvAgg.1 h
 obtain ⟨a,n,c,rfl,hI⟩:=cx_ints hC h2
 exact ⟨a,n,c,rfl,hI⟩
theorem cx_atoms {C:Nat→Nat→Prop} {w:World} {xs:List AtomD} {us:List Value} (hC:∀ b i,C b i→b<w.heap.size) (hn:NmOK xs) (h:CX C w (.sl 2 (xs.map atomDV)) us):∃ a n c,us=[.slice a n c]∧AtomsA false 0 w.heap.size w a n c xs:=by
 obtain ⟨a,n,c,vs,rfl,h2,h3,h4⟩:=h
 simp only [List.length_map] at h2
 have hlen:=h3.len
 refine ⟨a,n,c,rfl,h2,h4.2.1,h4.2.2.1,fun hn0=>?_,h4.2.2.2.1⟩
 obtain ⟨b,off,ha,hc⟩:=h4.2.2.2.2.2 hn0
 have hat:∀ i (hi:i<xs.length),∃ ra rn rc,vs[i*2]? = some (.string xs[i].nm)∧vs[i*2+1]? = some (.slice ra rn rc)∧IntsA false 0 w.heap.size w ra rn rc xs[i].vs:=fun i hi=>by
  have:=CXk.at h3 i (atomDV xs[i]) (by rw [List.getElem?_map,List.getElem?_eq_getElem hi];rfl)
  obtain ⟨u1,r1,e1,rfl,u2,r2,rfl,h6,rfl⟩:=this
  obtain ⟨ra,rn,rc,rfl,hI⟩:=cx_ints hC h6
  refine ⟨ra,rn,rc,?_,?_,hI⟩
  ·have:=congrArg (·[0]?) e1
   simpa [List.getElem?_take,List.getElem?_drop] using this
  ·have:=congrArg (·[1]?) e1
   simpa [List.getElem?_take,List.getElem?_drop] using this
 obtain ⟨_,_,_,g0,_⟩:=hat 0 (by omega)
 refine ⟨b,off,ha,Nat.zero_le _,hC b _ (hc _ _ g0).1,fun i hi=>?_⟩
 obtain ⟨ra,rn,rc,g1,g2,hI⟩:=hat i (by omega)
 refine ⟨[.string xs[i].nm,.slice ra rn rc],xs[i],rfl,List.getElem?_eq_getElem (by omega),⟨ra,rn,rc,rfl,hn _ (List.getElem_mem _),hI⟩,fun j hj=>?_⟩
 rcases (by omega:j=0∨j=1) with rfl | rfl
 ·exact ⟨by simpa using (hc _ _ g1).2,fun h=>(by cases h)⟩
 ·exact ⟨by simpa [Nat.add_assoc] using (hc _ _ g2).2,fun h=>(by cases h)⟩
theorem cv_query {G:Gh} {w:World} {nv:Int} {xs:List AtomD} {us:List Int} {v:Value} (hC:∀ b i,G.C b i→b<w.heap.size) (hn:NmOK xs) (h:CV G w (.d (queryD nv xs us)) v):∃ a n c ua un uc,v=queryV nv a n c ua un uc∧QueryA false 0 w.heap.size w nv a n c xs ua un uc us:=by
 obtain ⟨cs,⟨u1,r1,rfl,⟨rfl,h1⟩,u2,r2,rfl,h2,u3,r3,rfl,h3,rfl⟩,rfl⟩:=cvAgg.1 h
 obtain ⟨a,n,c,rfl,hA⟩:=cx_atoms hC hn h2
 obtain ⟨ua,un,uc,rfl,hU⟩:=cx_ints hC h3
 exact ⟨a,n,c,ua,un,uc,rfl,h1,hA,hU⟩
theorem own_afn {f:FuncId} {args:List AV} {xs:List Int} (hf:FnOK f) (h:∀ (w:World) (G:Gh) (vs:List Value),CVs G w args vs→(∀ b i,G.C b i→b<w.heap.size)→Calls Tryd.prog f vs.toArray w (GivesOwn w xs)) :
 AFn f args [] (fun r os=>r=.d (intsD xs)∧os=[]):=by
 refine afn_of_calls hf fun w G vs h1 h2=>(h w G vs h1 h2).mono ?_
 rintro e w' ⟨a,n,c,rfl,hI,hb⟩
 exact ⟨hb,_,_,rfl,⟨rfl,rfl⟩,cvSl.2 (own_cx hI.ints (fun b i h1 h2 h3=>.inr ⟨h1,h2,h3⟩))⟩
section
variable (nv:Int) (xs:List AtomD) (us:List Int) (hn:NmOK xs)
include hn
theorem implValidQA:AFn 29 [.d (queryD nv xs us)] [] (fun r os=>r=.d (.bool (qOK nv xs us))∧os=[]):=by
 refine leaf_afn (fnOK (by kernel_rfl)) (fun _ _=>cvBool.2 rfl) ?_
 rintro w G _ ⟨v,_,rfl,h1,rfl⟩ hC
 obtain ⟨a,n,c,ua,un,uc,rfl,hI⟩:=cv_query hC hn h1
 exact implValidQ nv a n c xs ua un uc us w hI (Nat.le_refl _)
theorem specValidQA:AFn 25 [.d (queryD nv xs us)] [] (fun r os=>r=.d (.bool (qOK nv xs us))∧os=[]):=by
 refine leaf_afn (fnOK (by kernel_rfl)) (fun _ _=>cvBool.2 rfl) ?_
 rintro w G _ ⟨v,_,rfl,h1,rfl⟩ hC
 obtain ⟨a,n,c,ua,un,uc,rfl,hI⟩:=cv_query hC hn h1
 exact specValidQ nv a n c xs ua un uc us w hI (Nat.le_refl _)
end
theorem implHasA (x:AtomD) (v:Int):AFn 54 [.d (atomDV x),.d (.int v)] [] (fun r os=>r=.d (.bool (occ x.vs v))∧os=[]):=by
 refine leaf_afn (fnOK (by kernel_rfl)) (fun _ _=>cvBool.2 rfl) ?_
 rintro w G _ ⟨v1,_,rfl,h1,v2,_,rfl,h2,rfl⟩ hC
 obtain ⟨a,n,c,rfl,hI⟩:=cv_atom hC h1
 obtain ⟨rfl,_⟩:=cvInt.1 h2
 exact implHasVar x.nm a n c x.vs v w hI (Nat.le_refl _)
theorem specHasA (x:AtomD) (v:Int):AFn 26 [.d (atomDV x),.d (.int v)] [] (fun r os=>r=.d (.bool (occ x.vs v))∧os=[]):=by
 refine leaf_afn (fnOK (by kernel_rfl)) (fun _ _=>cvBool.2 rfl) ?_
 rintro w G _ ⟨v1,_,rfl,h1,v2,_,rfl,h2,rfl⟩ hC
 obtain ⟨a,n,c,rfl,hI⟩:=cv_atom hC h1
 obtain ⟨rfl,_⟩:=cvInt.1 h2
 exact specHasVar x.nm a n c x.vs v w hI (Nat.le_refl _)
end Go.Proofs.YteiaofkgbdlpoaaDoor
namespace Go.Proofs.YteiaofkgbdlpoaaDoor
set_option linter.unusedSimpArgs false
set_option linter.unusedVariables false
open Go.RowKit
noncomputable def ordOK (nv:Int) (xs:List AtomD) (us os:List Int):Bool:=qOK nv xs us && (decide ((os.length:Int)=nv) && setB os nv)
def idTo (k:Nat):List Int:=(List.range k).map fun (i:Nat)=>(i:Int)
theorem idTo_len (k:Nat):(idTo k).length=k:=by simp [idTo]
theorem idTo_succ (k:Nat):idTo (k+1)=idTo k ++ [(k:Int)]:=by simp [idTo,List.range_succ]
noncomputable def defF (nv:Int) (xs:List AtomD) (us:List Int):List Int:=if qOK nv xs us=true then idTo nv.toNat else []
theorem defF_no {nv:Int} {xs:List AtomD} {us:List Int} (h:qOK nv xs us=false):defF nv xs us=[]:=by simp [defF,h]
theorem defF_yes {m:Nat} {xs:List AtomD} {us:List Int} (h:qOK (m:Int) xs us=true):defF m xs us=idTo m:=by simp [defF,h]
set_option maxHeartbeats 1600000 in
theorem implDefOrd {fz:Bool} {lo hi:Nat} (nv:Int) (a:Option Addr) (n c:Nat) (xs:List AtomD) (ua:Option Addr) (un uc:Nat) (us:List Int) (w:World) (hI:QueryA fz lo hi w nv a n c xs ua un uc us) (hh:hi≤w.heap.size) :
 Calls Tryd.prog 31 #[queryV nv a n c ua un uc] w (GivesOwn w (defF nv xs us)):=by
 have HI:=hid hI;clear hI
 obtain ⟨q,hq⟩:∃ q,qOK nv xs us=q:=⟨_,rfl⟩
 have HQ:=hid hq;clear hq
 cases q with
 | false =>
  have HF:=hid (defF_no HQ.out)
  go_enter Tryd.func31,Tryd.ntmps31
  go_wp2_with fail
  refine (implValidQ nv a n c xs ua un uc us _ (beQuery (B:=w.heap.size) HI.out belA hh) leA).mono ?_
  rintro e w1 ⟨rfl,hb1⟩
  rw [HQ.out]
  have HB:=hid (Below.trans (b:=w.alloc (.cells #[.int .i64 nv,.slice a n c,.slice ua un uc] 35)) (B:=w.heap.size) (a:=w) belA (hb1.mono leA));clear hb1
  go_wp2_with fail
  go_ret
  rw [HF.out]
  exact ⟨_,_,_,rfl,own_nil _ _,HB.out⟩
 | true =>
  have hn:=(qOK_out HQ.out).1.1
  obtain ⟨m,rfl⟩:=Int.eq_ofNat_of_zero_le (show 0≤nv by omega)
  have hm5:m≤5:=by omega
  clear hn
  have HF:=hid (defF_yes HQ.out)
  go_enter Tryd.func31,Tryd.ntmps31
  go_wp2_with fail
  refine (implValidQ m a n c xs ua un uc us _ (beQuery (B:=w.heap.size) HI.out belA hh) leA).mono ?_
  rintro e w1 ⟨rfl,hb1⟩
  rw [HQ.out]
  have c0:w1.cell? ⟨w.heap.size,0,none⟩=some (.int .i64 m):=(by rw [(bcell hb1).1 _ _ (by first | omega | (simp;done) | (simp;omega))];first | with_reducible assumption | (go_simp;done) | assumption | (simp [World.cell?];done))
  have hz1:w.heap.size<w1.heap.size:=World.block_lt_of_cell? _ _ c0
  have HB:=hid (Below.trans (b:=w.alloc (.cells #[.int .i64 m,.slice a n c,.slice ua un uc] 35)) (B:=w.heap.size) (a:=w) belA (hb1.mono leA));clear hb1
  go_wp2_with fail
  go_loopw [3,4] (fun v i wr=>∃ (k:Nat) (ao:Option Addr) (m' co:Nat),i=.int .i64 k∧v=.slice ao m' co∧k≤m∧Own w1.heap.size wr ao m' co (idTo k)∧Below w1.heap.size w1 wr) (fun _ i _=>m - (intOf i).toNat)
  case atStart=>exact ⟨0,_,0,0,rfl,rfl,by omega,own_nil _ _,Below.refl _ _⟩
  case round =>
   obtain ⟨k,ao,m',co,rfl,rfl,hk,hown,hbel⟩:=hrel
   have hm':m'≤k:=by have g1:=hown.len;rw [idTo_len] at g1;omega
   have hzw:=hbel.size
   have k0:wr.cell? ⟨w.heap.size,0,none⟩=some (.int .i64 m):=by rw [(bcell hbel).1 _ _ hz1];exact c0
   have HI64:Hid (I64 (k:Int)):=hid (by unfold I64;omega)
   have HO:=hid hown;clear hown
   have HBL:=hid hbel;clear hbel
   by_cases hlt:k<m
   ·go_wp2_with (at_builtin;refine wpApp rfl (.tmp 14) (.tmp 16) rfl w1.heap.size ao m' co _ rfl (HO.out.alloc _) _ 1 1 _ rfl (one_ints _ _ _ HI64.out) (by omega) (by simp;omega) ?_)
    intro a1 c1' w5 ho2 hg2
    have hb2:Below w1.heap.size w1 w5:=ho0' HO.out HBL.out (by omega) hg2
    have HO2:=hid ho2;clear ho2
    have HB2:=hid hb2;clear hb2 hg2
    go_wp2
    go_roundw
    case rel=>exact ⟨k+1,a1,m'+1,c1',by go_num,rfl,by omega,by rw [idTo_succ];exact HO2.out,HB2.out⟩
    case measure=>simp [intOf];omega
   ·go_wp2_with fail
    go_ret
    obtain rfl:k=m:=by omega
    rw [HF.out]
    exact ⟨_,_,_,rfl,HO.out.low (by omega),HB.out.trans (HBL.out.mono (by omega))⟩
end Go.Proofs.YteiaofkgbdlpoaaDoor
namespace Go.Proofs.YteiaofkgbdlpoaaDoor
set_option linter.unusedSimpArgs false
set_option linter.unusedVariables false
open Go.RowKit
theorem RelG.obm {X:Cx} {G:Gh} {s:AS} {a:Act} {w:World} {q:Nat} {l l':List AV} (h:RelG X G s a w) (hq:s.ob q=some l) (h2:∀ us,CVs G w l us→CVs G w l' us):RelG X G (s.setOb q (some l')) a w:=by
 have hs:∀ o,(s.setOb q (some l')).ob o ≠ none→s.ob o ≠ none:=fun o ho e=>by
  by_cases eo:o=q
  ·subst eo;rw [hq] at e;cases e
  ·exact ho (by simp [AS.setOb,eo,e])
 refine ⟨h.fr,h.df,h.n,h.tm,h.bf,fun o l2 ho=>?_,h.cs,h.d1,fun o o' a1 a2=>h.d2 o o' (hs o a1) (hs o' a2),fun o g a1=>h.d3 o g (hs o a1),fun o a1=>h.ow o (hs o a1),h.lc,h.nl,fun i a1=>h.ln i (hs _ a1),h.c0,h.uf⟩
 simp only [AS.setOb] at ho
 split at ho
 ·rename_i e
  subst e
  cases ho
  obtain ⟨g1,g2,us,g3,g4,g5⟩:=h.ob _ l hq
  exact ⟨g1,g2,us,h2 us g3,g4,g5⟩
 ·exact h.ob o l2 ho
theorem cvs_set {G:Gh} {w:World} {x y:AV} (hxy:∀ v,CV G w x v→CV G w y v):∀ {l:List AV} {us:List Value} {i:Nat},l[i]? = some x→CVs G w l us→CVs G w (l.set i y) us
 | [],us,i,h,_=>by simp at h
 | z :: l,us,i,h,hc=>by
  obtain ⟨v,us',rfl,h1,h2⟩:=hc
  cases i with
  | zero=>simp at h;subst h;exact ⟨v,us',rfl,hxy v h1,h2⟩
  | succ i=>exact ⟨v,us',rfl,h1,cvs_set hxy (by simpa using h) h2⟩
theorem awp_nilbufO {P:Cx→Prop} {N:Nat} {Q:Exit→AS→Prop} {s:AS} {c:Code} (q i g:Nat) (T:TypeId) (k:Nat) {l:List AV} (hq:s.ob q=some l) (hi:l[i]? = some .nil)
 (h:AWp P N c Q ((s.newB g).setOb q (some ((scrubs (fun g'=>!(g' == g)) (fun _=>true) l).set i (.buf g T k []))))):AWp P N c Q s:=by
 intro X a w hN hP ⟨G,hr⟩
 have hset:=hr.setBuf (w':=w) (g:=g) (T:=T) (k:=k) (World.grownBy.refl w _) (fun _ _ _ _=>rfl) (fun b j hb' hc=>by obtain ⟨a9,n9,c9,vs9,q1,q2,q3⟩:=hr.bf g;exact hr.uf b j hc (q2.1.lt b (by rw [← q1];exact hb')).1) (ownF_nil T k w X.w0.heap.size) (fun b hb=>by cases hb) (fun _ _=>False) (fun _ _ h=>h.elim) (fun b i hb=>by cases hb)
 refine h X a w hN hP ⟨_,RelG.obm hset (l:=scrubs (fun g'=>!(g' == g)) (fun _=>true) l) ?_ ?_⟩
 ·show (s.ob q).map (List.map (scrub (fun g'=>!(g' == g)) (fun _=>true)))=_
  rw [hq,Option.map_some,scrubs_map]
 ·intro us hu
  refine cvs_set (x:=.nil) (fun v hv=>?_) ?_ hu
  ·simp only [CV] at hv
   subst hv
   exact ⟨by simp,by simp,by simp,cx_whnil _ _ _⟩
  ·rw [scrubs_map,List.getElem?_map,hi];rfl
end Go.Proofs.YteiaofkgbdlpoaaDoor
namespace Go.Proofs.YteiaofkgbdlpoaaDoor
set_option linter.unusedSimpArgs false
set_option linter.unusedVariables false
open Go.RowKit
def GlobW (w:World):Prop:=w.cell? ⟨0,0,none⟩=some (.int .i64 1)∧w.cell? ⟨0,1,none⟩=some (.int .i64 1)
def GlobX (X:Cx):Prop:=GlobW X.w0∧¬ X.L 0
theorem GlobW.below {w w':World} (h:GlobW w) (hb:w'.heap[0]? = w.heap[0]?):GlobW w':=⟨by rw [World.cell?_of_block (w:=w) hb];exact h.1,by rw [World.cell?_of_block (w:=w) hb];exact h.2⟩
theorem GlobW.pos {w:World} (h:GlobW w):0<w.heap.size:=World.block_lt_of_cell? _ _ h.1
section
variable {X:Cx} {G:Gh} {s:AS} {a:Act} {w:World}
theorem RelG.glob (h:RelG X G s a w) (hP:GlobX X):GlobW w:=hP.1.below (h.fr.block 0 hP.1.pos hP.2)
end
def AFnG (f:FuncId) (args:List AV) (R:AV→List (List AV)→Prop):Prop :=
 FnOK f∧∀ (w:World) (G:Gh) (vs:List Value),GlobW w→CVs G w args vs→(∀ b i,G.C b i→b<w.heap.size) →
  Calls Tryd.prog f vs.toArray w (fun e w'=>∃ v r os' G',e=.returned v∧PostC 0 G w R v w' r os' G')
theorem afn_ofG {f N:Nat} {fn:Func} {c:Code} {args:List AV} {R:AV→List (List AV)→Prop} {ty:TypeId→Option TyI} {rv:List ResultVar} (ht:TabOK ty) (hf:Tryd.prog.funcs[f]? = some fn) (hb:fn.body=some c) (hnm:(fn.name == "runtime.NumGoroutine")=false)
 (hN:fn.ntmps=N) (hrv:fn.results.toList=rv) (hargs:args.length≤N) (h:AWp GlobX N c (EndA ty N 0 rv R) (entS args [])):AFnG f args R:=⟨⟨fn,hf,hnm,by rw [hb];rfl⟩,fun w G vs h0 h1 h2=>afn_core (os:=[]) ht hf hb hN hrv hargs h w G vs h1 h2 (fun i l hl=>by simp at hl) (fun i j hi=>absurd hi (Nat.not_lt_zero _)) (fun X hw _ _ hL=>⟨by rw [hw];exact h0,by rw [hL];rintro ⟨i,hi,_⟩;exact absurd hi (Nat.not_lt_zero _)⟩)⟩
section
variable {ty:TypeId→Option TyI} {N:Nat} {o:Oper} {s:AS} {K:AS→Prop}
theorem lloadG (ht:TabOK ty) {T:TypeId} {i:TyI} {d:Nat} (ho:o.op=.load T (.global 0)) (hd:o.dst=some d) (hi:ty T=some i) (ha:i.agg=true) (hsz:i.size=2) (h:K (s.put d (.d (.agg [.int 1,.int 1])))):LStep GlobX N o s K:=by
 intro X G a w hN hP hr
 obtain ⟨g1,g2⟩:=hr.glob hP
 obtain ⟨v,hrn,hv⟩:=run_loadVar (ht T i hi) (w:=w) (b:=0) (o:=0) (us:=[.int .i64 1,.int .i64 1]) (by rw [hsz];rfl) (fun j u hu=>by
  match j,hu with
  | 0,hu=>cases hu;simpa using g1
  | 1,hu=>cases hu;simpa using g2
  | j+2,hu=>simp at hu)
 rcases hv with ⟨_,rfl⟩ | ⟨h0,_⟩
 ·refine snd_val hr (x:=.d (.agg [.int 1,.int 1])) ?_ (cvAgg.2 ⟨[.int .i64 1,.int .i64 1],⟨[.int .i64 1],_,rfl,⟨rfl,by unfold I64;omega⟩,[.int .i64 1],[],rfl,⟨rfl,by unfold I64;omega⟩,rfl⟩,rfl⟩) (by rw [hd];exact h)
  simp only [execOp,ho,Instr.loadAt,Act.eval,Instr.sureAddr,Sem.run_bind,Sem.run_pure,Result.andThen_ok,hrn]
 ·rw [ha] at h0;cases h0
theorem lcallG {f:FuncId} {c:Call} {args:List AV} {R:AV→List (List AV)→Prop} (d:Nat) (ho:o.op=.call c) (hc:c.callee=.value (.func f)) (hd:o.dst=some d) (hdlt:d<1000000)
 (hA:AFnG f args R) (hsub:ASubs [] (evs N s c.args.toList) args) (h:∀ r os',R r os'→os'.length≤1∧K ((s.call [] d os').put d (renA [] d r))):LStep GlobX N o s K:=by
 intro X G a w hN hP hr nx Q hn
 subst hN
 obtain ⟨⟨fn,hfn,hb1,hb2⟩,hA⟩:=hA
 have hcv:=hsub.cv (hr.evs c.args.toList)
 have hcall:=hA w { G with ad:=fun i=>G.ad (([]:List Nat).getD i 0) } _ (hr.glob hP) hcv hr.cs
 have hrun:(execOp a.eval o).run Tryd.prog w=.ok (.enter f (c.args.toList.map a.eval).toArray) w:=by
  have hb3:¬ fn.name = "runtime.NumGoroutine" := by simpa using hb1
  have hb4:¬ fn.body=none:=by intro e;rw [e] at hb2;cases hb2
  simp [execOp,ho,resolve,hc,Act.eval,Deferred.ofValue,invoke,callFunc,hfn,hb3,hb4]
  rw [← Array.toList_map]
 unfold Oper.wp
 rw [hrun]
 simp only [Oper.upon]
 refine hcall.mono ?_
 rintro e0 w' ⟨v,r,os',G',rfl,hp⟩
 obtain ⟨h3,h4⟩:=h r os' hp.post
 obtain ⟨G2,h5,h6,_⟩:=hr.called (ns:=[]) hp (fun i hi=>absurd hi (Nat.not_lt_zero _)) (fun i hi=>absurd hi (Nat.not_lt_zero _)) (by simpa using h3) hdlt
 simp only
 rw [hd]
 exact hn _ _ _ h4 ⟨G2,h5.put d h6⟩
end
section
variable {P:Cx→Prop} {N:Nat} {Q:Exit→AS→Prop} {s:AS}
theorem awp_drawM {ty:TypeId→Option TyI} (ht:TabOK ty) (hm:Tryd.prog.follows .mixedOrders=true) {id:Nat} {l:List Oper} (n:Nat) {o:Oper} (ho:l[n]? = some o) (hg:o.guard=none)
 (hB:drawB l ((List.range l.length).map (flAt l))=true) (hR:(List.range n).all (fun j=>reachF l.toArray l.length n j)=true) (hR2:(List.range l.length).all (fun i=>decide (i≤n) || reachF l.toArray l.length i n)=true)
 (h:∀ K:AS→Prop,(∀ s,Q .normal s→K s)→wops ty N l (l.take n) 0 s (fun s1=>LStep P N o s1 (fun s2=>wops ty N l (l.drop (n+1)) (n+1) s2 K))):AWp P N (.region id l.toArray true) Q s:=by
 intro X a w hN hP ⟨G,hr⟩
 have hnl:n<l.length:=(List.getElem?_eq_some_iff.1 ho).1
 have hw:=wops_ok (ty:=ty) (N:=N) (ops:=l) (fls:=(List.range l.length).map (flAt l)) (fun i hi=>by simp [List.getD,hi]) (l.take n) 0 s (K:=fun s1=>LStep P N o s1 (fun s2=>wops ty N l (l.drop (n+1)) (n+1) s2 (Q .normal)))
 have hw2:=fun s2=>wops_ok (ty:=ty) (N:=N) (ops:=l) (fls:=(List.range l.length).map (flAt l)) (fun i hi=>by simp [List.getD,hi]) (l.drop (n+1)) (n+1) s2 (K:=Q .normal) (fun j hj=>by rw [List.getElem?_drop])
 have hlt:(l.take n).length=n:=by simp;omega
 generalize hfl:(List.range l.length).map (flAt l)=fls at hB hw hw2
 have hchk:∀ i o,l[i]? = some o→(∀ e∈o.after,Region.binds .any e=true→e.on<i)∧∀ j,j<i→reachF l.toArray l.length i j=true∨∀ p,l[j]? = some p→Ind l (fls.getD j []) (fls.getD i []) p o:=by
  intro i o ho
  have hi:=(List.getElem?_eq_some_iff.1 ho).1
  have:=List.all_eq_true.1 hB i (List.mem_range.2 hi)
  rw [ho] at this
  simp only [Bool.and_eq_true] at this
  refine ⟨fun e he hb=>?_,fun j hj=>?_⟩
  ·have h1:=List.all_eq_true.1 this.1 e (by simpa using he)
   rw [hb] at h1
   simpa using h1
  ·have h1:=List.all_eq_true.1 this.2 j (List.mem_range.2 hj)
   simp only [Bool.or_eq_true] at h1
   rcases h1 with h1 | h1
   ·exact .inl h1
   ·refine .inr fun p hp=>?_
    rw [hp] at h1
    exact ind_of h1
 have hcongr:∀ (d:Nat→Bool) (i m:Nat),(List.range m).filter (fun j=>!(if j=i then true else d j))=(List.range m).filter (fun j=>(fun j=>!d j) j && !(j == i)):=fun d i m=>by
  apply List.filter_congr
  intro x _
  by_cases ex:x=i
  ·simp [ex]
  ·simp [ex]
 refine wp_region_inv hm (fun d a' w'=>∃ s',Rel X s' a' w'∧(d n=false→(∀ j,n<j→d j=false)∧aopsD ty N l fls ((List.range n).filter fun i=>!d i) s' (fun s1=>LStep P N o s1 (fun s2=>wops ty N l (l.drop (n+1)) (n+1) s2 (Q .normal)))) ∧
  (d n=true→(∀ j,j<n→d j=true)∧aopsD ty N l fls ((List.range l.length).filter fun i=>!d i) s' (Q .normal))) (fun i o ho=>(hchk i o (by simpa using ho)).1) ?_ ?_ ?_
 ·refine ⟨s,⟨G,hr.drew⟩,fun _=>⟨fun _ _=>rfl,?_⟩,fun h=>(by cases h)⟩
  have:(List.range n).filter (fun i=>!(fun _=>false:Nat→Bool) i)=List.range n:=by simp
  rw [this,List.range_eq_range']
  have:=hw (fun j hj=>by rw [hlt] at hj;simp [List.getElem?_take,hj]) (h _ fun _ h=>h)
  rw [hlt] at this
  exact this
 ·rintro d a' w' i o' ho2 hd hdeps hcl hbig ⟨s',⟨G',hr'⟩,ha,hb⟩
  have ho':l[i]? = some o':=by simpa using ho2
  have hi:=(List.getElem?_eq_some_iff.1 ho').1
  have hreach:∀ j,reachF l.toArray l.length i j=true→d j=true:=fun j hj=>reachF_done (ops:=l.toArray) hcl l.length i j (fun o' h2=>by rw [ho2] at h2;cases h2;exact hdeps) hj
  by_cases hin:i=n
  ·subst hin
   obtain rfl:o=o':=by rw [ho] at ho';exact Option.some.inj ho'
   have hall:∀ j,j<i→d j=true:=fun j hj=>hreach j (List.all_eq_true.1 hR j (List.mem_range.2 hj))
   obtain ⟨hlater,ha⟩:=ha hd
   have e0:(List.range i).filter (fun i=>!d i)=[]:=by
    rw [List.filter_eq_nil_iff]
    intro x hx
    simp [hall x (List.mem_range.1 hx)]
   rw [e0] at ha
   unfold wpOp
   rw [ho2]
   simp only
   rw [if_pos (by simp [Region.wanted,hg])]
   refine .inl (ha X G' a' w' hN hP hr' _ _ fun s2 a2 w2 h3 h4=>⟨s2,h4,fun h=>by simp at h,fun _=>⟨fun j hj=>by simp [show ¬ j=i by omega,hall j hj],?_⟩⟩)
   have e1:(List.range l.length).filter (fun j=>!(if j=i then true else d j))=List.range' (i+1) (l.drop (i+1)).length:=by
    have hsp:List.range l.length=List.range (i+1) ++ List.range' (i+1) (l.length - (i+1)):=by
     have:=List.range'_append_1 (s:=0) (m:=i+1) (n:=l.length - (i+1))
     rw [List.range_eq_range',List.range_eq_range',show l.length=i+1+(l.length - (i+1)) by omega,← this]
     simp
    rw [hsp,List.filter_append,List.filter_eq_nil_iff.2,List.nil_append,List.filter_eq_self.2,List.length_drop]
    ·intro x hx
     have hx:=List.mem_range'_1.1 hx
     simp [show ¬ x=i by omega,hlater x (by omega)]
    ·intro x hx
     have hx:=List.mem_range.1 hx
     by_cases e:x=i
     ·simp [e]
     ·simp [e,hall x (by omega)]
   rw [e1]
   exact hw2 s2 h3
  ·cases hdn:d n with
   | true =>
    obtain ⟨hbef,hb⟩:=hb hdn
    have hin':n<i:=by
     refine Nat.lt_of_not_le fun hle=>?_
     have:=hbef i (by omega)
     rw [hd] at this;cases this
    obtain ⟨post,e1,e2⟩:=filter_split (fun j=>!d j) l.length i hi (by simp [hd])
    rw [e1] at hb
    have hfr:=front (ty:=ty) (N:=N) ht ho' _ s' (fun j hj p hp=>by
     obtain ⟨hj1,hj2⟩:=List.mem_filter.1 hj
     have hji:j<i:=List.mem_range.1 hj1
     rcases (hchk i o' ho').2 j hji with h1 | h1
     ·exfalso
      have:=hreach j h1
      rw [this] at hj2;cases hj2
     ·exact h1 p hp) hb
    refine stepD_ok ht hN hr' ho' hfr (fun s2 a2 w2 h2 h3=>⟨s2,h3,fun h=>?_,fun _=>⟨fun j hj=>?_,?_⟩⟩)
    ·simp only [if_neg (show ¬ n=i from fun e=>hin e.symm),hdn] at h;cases h
    ·simp [hbef j hj]
    ·rw [hcongr,e2];exact h2
   | false =>
    obtain ⟨hlater,ha⟩:=ha hdn
    have hin':i<n:=by
     refine Nat.lt_of_not_le fun hle=>?_
     have h1:=List.all_eq_true.1 hR2 i (List.mem_range.2 hi)
     simp only [Bool.or_eq_true,decide_eq_true_eq] at h1
     rcases h1 with h1 | h1
     ·omega
     ·have:=hreach n h1
      rw [hdn] at this;cases this
    obtain ⟨post,e1,e2⟩:=filter_split (fun j=>!d j) n i hin' (by simp [hd])
    rw [e1] at ha
    have hfr:=front (ty:=ty) (N:=N) ht ho' _ s' (fun j hj p hp=>by
     obtain ⟨hj1,hj2⟩:=List.mem_filter.1 hj
     have hji:j<i:=List.mem_range.1 hj1
     rcases (hchk i o' ho').2 j hji with h1 | h1
     ·exfalso
      have:=hreach j h1
      rw [this] at hj2;cases hj2
     ·exact h1 p hp) ha
    refine stepD_ok ht hN hr' ho' hfr (fun s2 a2 w2 h2 h3=>⟨s2,h3,fun _=>⟨fun j hj=>?_,?_⟩,fun h=>?_⟩)
    ·simp [show ¬ j=i by omega,hlater j hj]
    ·rw [hcongr,e2];exact h2
    ·simp only [if_neg (show ¬ n=i from fun e=>hin e.symm),hdn] at h;cases h
 ·rintro d a' w' hall hbig ⟨s',hr',ha,hb⟩
  have h1:=(hb (hall n (by simpa using hnl))).2
  have e0:(List.range l.length).filter (fun i=>!d i)=[]:=by
   rw [List.filter_eq_nil_iff]
   intro x hx
   simp [hall x (by simpa using hx)]
  rw [e0] at h1
  exact ⟨s',h1,hr'⟩
theorem awp_regionY {ty:TypeId→Option TyI} (ht:TabOK ty) {id:Nat} {l:List Oper} (i:Nat) {o:Oper} (hi:l[i]? = some o) (hg:o.guard=none) (h:∀ K K2:AS→Prop,(∀ s,Q .normal s→K s)→(∀ s,aops ty N l (l.drop (i+1)) s K→K2 s)→aops ty N l (l.take i) s (fun s1=>LStep P N o s1 K2)):AWp P N (.region id l.toArray false) Q s :=
 awp_regionX ht i hi hg fun K hK=>h K _ hK fun _ h=>h
theorem awp_drawY {ty:TypeId→Option TyI} (ht:TabOK ty) (hm:Tryd.prog.follows .mixedOrders=true) {id:Nat} {l:List Oper} (n:Nat) {o:Oper} (ho:l[n]? = some o) (hg:o.guard=none)
 (hB:drawB l ((List.range l.length).map (flAt l))=true) (hR:(List.range n).all (fun j=>reachF l.toArray l.length n j)=true) (hR2:(List.range l.length).all (fun i=>decide (i≤n) || reachF l.toArray l.length i n)=true)
 (h:∀ K K2:AS→Prop,(∀ s,Q .normal s→K s)→(∀ s,wops ty N l (l.drop (n+1)) (n+1) s K→K2 s)→wops ty N l (l.take n) 0 s (fun s1=>LStep P N o s1 K2)):AWp P N (.region id l.toArray true) Q s:=awp_drawM ht hm n ho hg hB hR hR2 fun K hK=>h K _ hK fun _ h=>h
end
end Go.Proofs.YteiaofkgbdlpoaaDoor
