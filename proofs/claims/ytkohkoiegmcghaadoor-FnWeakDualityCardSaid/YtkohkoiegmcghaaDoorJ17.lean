/- Lemmas for the proof of FnCoverDuality, part 17 of 25: no condition of their own. -/
import Derived.Test.YtkohkoiegmcghaaDoorJ16
import Derived.Test.YtkohkoiegmcghaaDoorJ4
import Derived.Deep.CutBlock
import Derived.Deep.DeepCutAuto
import Derived.Laws.BytesArg
namespace Go.Proofs.YtkohkoiegmcghaaDoor
set_option linter.unusedSimpArgs false
set_option linter.unusedVariables false
open Go.RowKit
noncomputable def occ (xs:List Int) (v:Int):Bool:=decide (0≤findF xs v)
theorem occ_at {xs:List Int} {v:Int} {i:Nat} (hi:i<xs.length) (h:ix xs i=v) (hn:∀ j,j<i→ix xs j ≠ v):occ xs v=true:=by
 unfold occ;rw [findF_eq hi h hn];simp
theorem occ_none {xs:List Int} {v:Int} (h:∀ i,i<xs.length→ix xs i ≠ v):occ xs v=false:=by
 unfold occ;rw [findF_none h];simp
set_option maxHeartbeats 800000 in
theorem implHasVar {fz:Bool} {lo hi:Nat} (s:ByteArray) (a:Option Addr) (n c:Nat) (xs:List Int) (v:Int) (w:World) (hI:IntsA fz lo hi w a n c xs) (hh:hi≤w.heap.size) :
 Calls Tryd.prog 30 #[atomV s a n c,.int .i64 v] w (Leaves w (.bool (occ xs v))):=by
 go_enter Tryd.func30,Tryd.ntmps30
 go_wp2_with fail
 refine (implHasInt a n c xs v _ (beInts (B:=w.heap.size) hI belA hh)).mono ?_
 rintro e w1 ⟨rfl,m1,rfl⟩
 go_wp2_with fail
 go_ret
 exact ⟨rfl,belA⟩
set_option maxHeartbeats 800000 in
theorem specHasVar {fz:Bool} {lo hi:Nat} (s:ByteArray) (a:Option Addr) (n c:Nat) (xs:List Int) (v:Int) (w:World) (hI:IntsA fz lo hi w a n c xs) (hh:hi≤w.heap.size) :
 Calls Tryd.prog 32 #[atomV s a n c,.int .i64 v] w (Leaves w (.bool (occ xs v))):=by
 have hl:=hI.len
 have hs:=hI.small
 have HL:=hid hl;clear hl
 obtain ⟨W,hW⟩:∃ W,W=w.alloc (.cells #[.string s,.slice a n c] 57):=⟨_,rfl⟩
 have hBW:Below w.heap.size w W:=by rw [hW];exact belA
 have c1:W.cell? ⟨w.heap.size,1,none⟩=some (.slice a n c):=by rw [hW];simp
 have hIW:=beInts hI hBW hh
 have HW:=hid (And.intro hW hBW);clear hW hBW hI
 go_enter Tryd.func32,Tryd.ntmps32
 go_upto_region 1 with fail
 rw [← HW.out.1]
 go_wp2_with fail
 go_loop [5] (fun i=>∃ k:Nat,i=.int .i64 k∧k≤n∧Hid (∀ j,j<k→ix xs j ≠ v)) (fun i=>n - (intOf i).toNat)
 case atStart=>exact ⟨0,rfl,by omega,hid (fun j hj=>by omega)⟩
 case round =>
  obtain ⟨k,rfl,hk,HT⟩:=hrel
  by_cases hlt:k<n
  ·obtain ⟨b,off,rfl,_,_,hc,_⟩:=hIW.open (by omega)
   have c2:=hc k hlt
   clear hc
   generalize hx:ix xs k=x at *
   have HX:=hid hx;clear hx
   by_cases he:x=v
   ·have hb:(x == v)=true:=by simp [he]
    have HF:=hid (occ_at (xs:=xs) (v:=v) (i:=k) (by rw [HL.out];exact hlt) (by rw [HX.out];exact he) HT.out)
    have HE:=hid he;clear he
    go_wp2_with fail
    go_ret
    exact ⟨by rw [HF.out];rfl,HW.out.2⟩
   ·have hb:(x == v)=false:=by simp [he]
    have HT2:Hid (∀ j,j<k+1→ix xs j ≠ v):=hid (fun j hj=>by
     by_cases e:j=k
     ·subst e;rw [HX.out];exact he
     ·exact HT.out j (by omega))
    have HE:=hid he;clear he
    go_wp2_with fail
    go_round
    case rel=>exact ⟨k+1,by go_num,by omega,HT2⟩
    case measure=>simp [intOf];omega
  ·have HF:=hid (occ_none (xs:=xs) (v:=v) (by rw [HL.out];intro j hj;exact HT.out j (by omega)))
   go_wp2_with fail
   go_ret
   exact ⟨by rw [HF.out];rfl,HW.out.2⟩
noncomputable def avTo (xs:List Int):Nat→List Int
 | 0=>[]
 | k+1=>if occ xs k=true then avTo xs k ++ [(k:Int)] else avTo xs k
theorem avTo_len (xs:List Int) (k:Nat):(avTo xs k).length≤k:=by
 induction k with
 | zero=>simp [avTo]
 | succ k ih =>
  simp only [avTo];split
  ·simp;omega
  ·omega
theorem avTo_put {xs:List Int} {k:Nat} (h:occ xs k=true):avTo xs (k+1)=avTo xs k ++ [(k:Int)]:=by simp only [avTo];rw [if_pos h]
theorem avTo_keep {xs:List Int} {k:Nat} (h:occ xs k=false):avTo xs (k+1)=avTo xs k:=by simp only [avTo];rw [if_neg (by rw [h];exact Bool.false_ne_true)]
set_option maxHeartbeats 1600000 in
theorem implAtomVars {fz:Bool} {lo hi:Nat} (s:ByteArray) (a:Option Addr) (n c:Nat) (xs:List Int) (w:World) (hI:IntsA fz lo hi w a n c xs) (hh:hi≤w.heap.size) :
 Calls Tryd.prog 34 #[atomV s a n c] w (GivesOwn w (avTo xs 5)):=by
 obtain ⟨W,hW⟩:∃ W,W=(w.alloc (.cells #[.string s,.slice a n c] 57)):=⟨_,rfl⟩
 have hBW:Below w.heap.size w W:=by rw [hW];exact belA
 have c0:W.cell? ⟨w.heap.size,0,none⟩=some (.string s):=by rw [hW];first | (go_simp;done) | (simp [World.cell?];done)
 have c1:W.cell? ⟨w.heap.size,1,none⟩=some (.slice a n c):=by rw [hW];first | (go_simp;done) | (simp [World.cell?];done)
 have hz:w.heap.size+1≤W.heap.size:=by rw [hW];simp
 have ho:Own (w.heap.size+1) W none 0 0 []:=own_nil _ _
 have HW:=hid (And.intro hW (And.intro hBW (And.intro hI ho)));clear hW hBW hI ho
 go_enter Tryd.func34,Tryd.ntmps34
 go_upto_region 2 with fail
 rw [← HW.out.1]
 go_wp2_with fail
 go_loopw [3,4] (fun v i wr=>∃ (k:Nat) (ao:Option Addr) (m co:Nat),i=.int .i64 k∧v=.slice ao m co∧k≤5∧Own (w.heap.size+1) wr ao m co (avTo xs k)∧Below (w.heap.size+1) W wr) (fun _ i _=>5 - (intOf i).toNat)
 case atStart=>exact ⟨0,_,0,0,rfl,rfl,by omega,HW.out.2.2.2,Below.refl _ _⟩
 case round =>
  obtain ⟨k,ao,m,co,rfl,rfl,hk,hown,hbel⟩:=hrel
  have hm:m≤k:=by have g1:=hown.len;have g2:=avTo_len xs k;omega
  have hzw:=hbel.size
  have hbw:Below w.heap.size w wr:=HW.out.2.1.trans (hbel.mono (by omega))
  have k0:wr.cell? ⟨w.heap.size,0,none⟩=some (.string s):=by rw [hbel.cell (p:=⟨w.heap.size,0,none⟩) (by simp)];exact c0
  have k1:wr.cell? ⟨w.heap.size,1,none⟩=some (.slice a n c):=by rw [hbel.cell (p:=⟨w.heap.size,1,none⟩) (by simp)];exact c1
  have HO:=hid hown
  have HB:=hid (And.intro hbel hbw)
  have HIr:=hid (beInts HW.out.2.2.1 hbw hh)
  clear hown hbel hbw
  by_cases hlt:k<5
  ·obtain ⟨eb,heb⟩:∃ eb,occ xs k=eb:=⟨_,rfl⟩
   have HEB:=hid heb;clear heb
   have hI64:I64 (k:Int):=by unfold I64;omega
   have HI64:=hid hI64;clear hI64
   cases eb with
   | true =>
    go_wp2_with fail
    refine (implHasVar s a n c xs k _ HIr.out (by omega)).mono ?_
    rintro e w3 ⟨rfl,hb3⟩
    rw [HEB.out]
    have hz3:=hb3.size
    have HO3:=hid (HO.out.keep (Keeps.of_below hb3 (Nat.le_refl _)))
    have HB3:=hid (HB.out.1.trans (hb3.mono (by omega)))
    clear hb3
    go_wp2_with (at_builtin;refine wpApp rfl (.tmp 12) (.tmp 14) rfl (w.heap.size+1) ao m co _ rfl (HO3.out.alloc _) _ 1 1 _ rfl (one_ints _ _ _ HI64.out) (by omega) (by simp;omega) ?_)
    intro a1 c1' w5 ho2 hg2
    have hb2:Below (w.heap.size+1) W w5:=ho0' HO3.out HB3.out (by omega) hg2
    have HO2:=hid ho2;clear ho2
    have HB2:=hid hb2;clear hb2 hg2
    go_wp2
    go_roundw
    case rel=>exact ⟨k+1,a1,m+1,c1',by go_num,rfl,by omega,by rw [avTo_put HEB.out];exact HO2.out,HB2.out⟩
    case measure=>simp [intOf];omega
   | false =>
    go_wp2_with fail
    refine (implHasVar s a n c xs k _ HIr.out (by omega)).mono ?_
    rintro e w3 ⟨rfl,hb3⟩
    rw [HEB.out]
    have hz3:=hb3.size
    have HO3:=hid (HO.out.keep (Keeps.of_below hb3 (Nat.le_refl _)))
    have HB3:=hid (HB.out.1.trans (hb3.mono (by omega)))
    clear hb3
    go_wp2_with fail
    go_roundw
    case rel=>exact ⟨k+1,ao,m,co,by go_num,rfl,by omega,by rw [avTo_keep HEB.out];exact HO3.out,HB3.out⟩
    case measure=>simp [intOf];omega
  ·go_wp2_with fail
   go_ret
   obtain rfl:k=5:=by omega
   exact ⟨_,_,_,rfl,HO.out.low (by omega),HB.out.2⟩
end Go.Proofs.YtkohkoiegmcghaaDoor
namespace Go.Proofs.YtkohkoiegmcghaaDoor
set_option linter.unusedSimpArgs false
set_option linter.unusedVariables false
open Go.RowKit
def sx (s:ByteArray) (i:Nat):Int:=if h:i<s.size then (s[i].toNat:Int) else 0
theorem sx_lt {s:ByteArray} {i:Nat} (h:i<s.size):sx s i=(s[i].toNat:Int):=by simp [sx,h]
def LetTo (s:ByteArray) (k:Nat):Prop:=∀ i,i<k→97≤sx s i∧sx s i≤122
open Classical in
noncomputable def nameOK (s:ByteArray):Bool:=decide ((1≤s.size∧s.size≤4)∧LetTo s s.size)
theorem nameOK_size {s:ByteArray} (h:¬ (1≤s.size∧s.size≤4)):nameOK s=false:=by simp only [nameOK,decide_eq_false_iff_not];exact fun g=>h g.1
theorem nameOK_let {s:ByteArray} {i:Nat} (hi:i<s.size) (h:¬ (97≤sx s i∧sx s i≤122)):nameOK s=false:=by simp only [nameOK,decide_eq_false_iff_not];exact fun g=>h (g.2 i hi)
theorem nameOK_yes {s:ByteArray} (h:1≤s.size∧s.size≤4) (h2:LetTo s s.size):nameOK s=true:=by simp only [nameOK,decide_eq_true_eq];exact ⟨h,h2⟩
set_option maxHeartbeats 800000 in
theorem implLetters (s:ByteArray) (w:World) (hs:s.size≤9223372036854775807):Calls Tryd.prog 71 #[.string s,.int .i64 4] w (Leaves w (.bool (nameOK s))):=by
 by_cases h1:1≤s.size∧s.size≤4
 ·obtain ⟨h1a,h1b⟩:=h1
  go_enter Tryd.func71,Tryd.ntmps71
  go_wp2_with fail
  go_loop [5] (fun i=>∃ k:Nat,i=.int .i64 k∧k≤s.size∧Hid (LetTo s k)) (fun i=>s.size - (intOf i).toNat)
  case atStart=>exact ⟨0,rfl,Nat.zero_le _,hid (fun i hi=>by omega)⟩
  case round =>
   obtain ⟨k,rfl,hk,HT⟩:=hrel
   by_cases hlt:k<s.size
   ·have HX:=hid (sx_lt hlt)
    by_cases g1:(s[k].toNat:Int)<97
    ·have HF:=hid (nameOK_let hlt (fun g=>by rw [HX.out] at g;omega))
     go_wp2_with fail
     go_ret
     exact ⟨by rw [HF.out];rfl,belA⟩
    ·by_cases g2:122<(s[k].toNat:Int)
     ·have HF:=hid (nameOK_let hlt (fun g=>by rw [HX.out] at g;omega))
      go_wp2_with fail
      go_ret
      exact ⟨by rw [HF.out];rfl,belA⟩
     ·have HT2:Hid (LetTo s (k+1)):=hid (fun i hi=>by
       by_cases e:i=k
       ·subst e;rw [HX.out];omega
       ·exact HT.out i (by omega))
      go_wp2_with fail
      go_round
      case rel=>exact ⟨k+1,by go_num,by omega,HT2⟩
      case measure=>simp [intOf];omega
   ·have HF:=hid (nameOK_yes ⟨h1a,h1b⟩ (by intro i hi;exact HT.out i (by omega)))
    go_wp2_with fail
    go_ret
    exact ⟨by rw [HF.out];rfl,belA⟩
 ·have HF:=hid (nameOK_size h1)
  by_cases h2:s.size<1
  ·go_enter Tryd.func71,Tryd.ntmps71
   go_wp2_with fail
   go_ret
   exact ⟨by rw [HF.out];rfl,belA⟩
  ·have h3:4<s.size:=by omega
   clear h1
   go_enter Tryd.func71,Tryd.ntmps71
   go_wp2_with fail
   go_ret
   exact ⟨by rw [HF.out];rfl,belA⟩
theorem implName (s:ByteArray) (w:World) (hs:s.size≤9223372036854775807):Calls Tryd.prog 58 #[.string s] w (Leaves w (.bool (nameOK s))):=by
 go_enter Tryd.func58,Tryd.ntmps58
 go_wp2_with fail
 refine (implLetters s _ hs).mono ?_
 rintro e w1 ⟨rfl,hb1⟩
 go_wp2_with fail
 go_ret
 exact ⟨rfl,hb1⟩
set_option maxHeartbeats 800000 in
theorem specName (s:ByteArray) (w:World) (hs:s.size≤9223372036854775807):Calls Tryd.prog 42 #[.string s] w (Leaves w (.bool (nameOK s))):=by
 go_enter Tryd.func42,Tryd.ntmps42
 go_wp2_with fail
 go_loop [3] (fun i=>∃ k:Nat,i=.int .i64 k∧k≤s.size∧Hid (LetTo s k)) (fun i=>s.size - (intOf i).toNat)
 case atStart=>exact ⟨0,rfl,Nat.zero_le _,hid (fun i hi=>by omega)⟩
 case round =>
  obtain ⟨k,rfl,hk,HT⟩:=hrel
  by_cases hlt:k<s.size
  ·have HX:=hid (sx_lt hlt)
   by_cases g1:(s[k].toNat:Int)<97
   ·have HF:=hid (nameOK_let hlt (fun g=>by rw [HX.out] at g;omega))
    go_wp2_with fail
    go_ret
    exact ⟨by rw [HF.out];rfl,belA⟩
   ·by_cases g2:122<(s[k].toNat:Int)
    ·have HF:=hid (nameOK_let hlt (fun g=>by rw [HX.out] at g;omega))
     go_wp2_with fail
     go_ret
     exact ⟨by rw [HF.out];rfl,belA⟩
    ·have HT2:Hid (LetTo s (k+1)):=hid (fun i hi=>by
      by_cases e:i=k
      ·subst e;rw [HX.out];omega
      ·exact HT.out i (by omega))
     go_wp2_with fail
     go_round
     case rel=>exact ⟨k+1,by go_num,by omega,HT2⟩
     case measure=>simp [intOf];omega
  ·have hT:LetTo s s.size:=fun i hi=>HT.out i (by omega)
   have HTT:=hid hT;clear hT
   obtain ⟨d,hd⟩:∃ d,decide ((1:Int)≤s.size∧(s.size:Int)≤4)=d:=⟨_,rfl⟩
   have HD:=hid hd;clear hd
   have HF:Hid (nameOK s=d):=hid (by
    rw [← HD.out]
    by_cases h:1≤s.size∧s.size≤4
    ·rw [nameOK_yes h HTT.out];symm;simp;omega
    ·rw [nameOK_size h];symm;simp;omega)
   go_wp2_with fail
   refine (specIn s.size 1 4 _).mono ?_
   rintro e w1 ⟨rfl,m1,rfl⟩
   rw [HD.out]
   go_wp2_with fail
   go_ret
   exact ⟨by rw [HF.out];rfl,belA⟩
end Go.Proofs.YtkohkoiegmcghaaDoor
namespace Go.Proofs.YtkohkoiegmcghaaDoor
set_option linter.unusedSimpArgs false
set_option linter.unusedVariables false
open Go.RowKit
theorem pigeon:∀ (n k:Nat) (f:Nat→Int),(∀ i,i<k→0≤f i∧f i<n)→(∀ i j,i<j→j<k→f i ≠ f j)→k≤n
 | 0,k,f,h1,_=>by
  by_cases hk:0<k
  ·have:=h1 0 hk;omega
  ·omega
 | n+1,k,f,h1,h2=>by
  by_cases h:∃ i,i<k∧f i=n
  ·obtain ⟨i0,hi0,he⟩:=h
   have:=pigeon n (k - 1) (fun j=>if j<i0 then f j else f (j+1)) (fun j hj=>by
    show 0≤(if j<i0 then f j else f (j+1))∧(if j<i0 then f j else f (j+1))<n
    split
    ·next g =>
     have a:=h1 j (by omega);have b:=h2 j i0 g hi0;rw [he] at b
     exact ⟨a.1,by omega⟩
    ·next g =>
     have a:=h1 (j+1) (by omega);have b:=h2 i0 (j+1) (by omega) (by omega);rw [he] at b
     exact ⟨a.1,by omega⟩) (fun i j hij hj=>by
    show (if i<i0 then f i else f (i+1)) ≠ (if j<i0 then f j else f (j+1))
    split
    ·split
     ·exact h2 i j hij (by omega)
     ·exact h2 i (j+1) (by omega) (by omega)
    ·split
     ·omega
     ·exact h2 (i+1) (j+1) (by omega) (by omega))
   omega
  ·have:=pigeon n k f (fun i hi=>by
    have a:=h1 i hi
    have b:f i ≠ n:=fun e=>h ⟨i,hi,e⟩
    exact ⟨a.1,by omega⟩) h2
   omega
theorem firstIx_sr (p:Nat→Prop) (n:Nat):(firstIx p n<n→p (firstIx p n))∧∀ j,j<firstIx p n→¬ p j:=by
 induction n with
 | zero=>exact ⟨fun h=>by simp [firstIx] at h,fun j hj=>by simp [firstIx] at hj⟩
 | succ n ih =>
  by_cases h1:firstIx p n<n
  ·have e:firstIx p (n+1)=firstIx p n:=by simp only [firstIx];rw [if_pos h1]
   rw [e];exact ⟨fun _=>ih.1 h1,ih.2⟩
  ·have h0:=firstIx_le p n
   have hn:firstIx p n=n:=by omega
   rw [hn] at ih
   by_cases h2:p n
   ·have e:firstIx p (n+1)=n:=by simp only [firstIx];rw [if_neg h1,if_pos h2]
    rw [e];exact ⟨fun _=>h2,ih.2⟩
   ·have e:firstIx p (n+1)=n+1:=by simp only [firstIx];rw [if_neg h1,if_neg h2]
    rw [e];exact ⟨fun h=>by omega,fun j hj=>by
     by_cases ej:j=n
     ·subst ej;exact h2
     ·exact ih.2 j (by omega)⟩
theorem findF_miss {xs:List Int} {v:Int} (h:¬ 0≤findF xs v):∀ i,i<xs.length→ix xs i ≠ v:=by
 intro i hi e
 have hs:=firstIx_sr (fun i=>ix xs i=v) xs.length
 unfold findF at h
 split at h
 ·omega
 ·next g=>exact hs.2 i (by omega) e
theorem findF_hit {xs:List Int} {v:Int} (h:0≤findF xs v):∃ i,i<xs.length∧ix xs i=v:=by
 have hs:=firstIx_sr (fun i=>ix xs i=v) xs.length
 unfold findF at h
 split at h
 ·next g=>exact ⟨_,g,hs.1 g⟩
 ·omega
theorem set_len {us:List Int} {n:Nat} (h:SetTo us n us.length):us.length≤n:=by
 refine pigeon n us.length (ix us) (fun i hi=>?_) (fun i j hij hj e=>?_)
 ·have:=(h i hi).1;omega
 ·have h2:=findF_miss (h j hj).2 i (by rw [List.length_take];omega)
  apply h2
  rw [← e];simp [ix,hij]
noncomputable def backF (cols:List Int) (k:Nat):List Int:=(List.range k).map fun (i:Nat)=>findF cols (i:Int)
end Go.Proofs.YtkohkoiegmcghaaDoor
namespace Go.Proofs.YtkohkoiegmcghaaDoor
set_option linter.unusedSimpArgs false
set_option linter.unusedVariables false
open Go.RowKit
def AtomOK (nv:Int) (x:AtomD):Prop:=nameOK x.nm=true∧(1≤x.vs.length∧x.vs.length≤5)∧∀ j,j<x.vs.length→0≤ix x.vs j∧ix x.vs j≤nv - 1
def HeadOK (nv:Int) (n:Nat):Prop:=(1≤nv∧nv≤5)∧1≤n∧n≤4
def CovOK (nv:Int) (xs:List AtomD):Prop:=∀ v:Nat,(v:Int)<nv→∃ i,i<xs.length∧occ (ax xs i).vs v=true
open Classical in
noncomputable def qOK (nv:Int) (xs:List AtomD) (us:List Int):Bool :=
 decide (HeadOK nv xs.length∧SetTo us nv us.length∧(∀ i,i<xs.length→AtomOK nv (ax xs i))∧CovOK nv xs)
section
variable {nv:Int} {xs:List AtomD} {us:List Int}
theorem qOK_yes (h1:HeadOK nv xs.length) (h2:SetTo us nv us.length) (h3:∀ i,i<xs.length→AtomOK nv (ax xs i)) (h4:CovOK nv xs):qOK nv xs us=true:=by
 simp only [qOK,decide_eq_true_eq];exact ⟨h1,h2,h3,h4⟩
theorem qOK_out (h:qOK nv xs us=true):HeadOK nv xs.length∧SetTo us nv us.length∧(∀ i,i<xs.length→AtomOK nv (ax xs i))∧CovOK nv xs:=by
 simpa only [qOK,decide_eq_true_eq] using h
theorem qOK_head (h:¬ HeadOK nv xs.length):qOK nv xs us=false:=by simp only [qOK,decide_eq_false_iff_not];exact fun g=>h g.1
theorem qOK_set (h:¬ SetTo us nv us.length):qOK nv xs us=false:=by simp only [qOK,decide_eq_false_iff_not];exact fun g=>h g.2.1
theorem qOK_atom {i:Nat} (hi:i<xs.length) (h:¬ AtomOK nv (ax xs i)):qOK nv xs us=false:=by simp only [qOK,decide_eq_false_iff_not];exact fun g=>h (g.2.2.1 i hi)
theorem qOK_cov (h:¬ CovOK nv xs):qOK nv xs us=false:=by simp only [qOK,decide_eq_false_iff_not];exact fun g=>h g.2.2.2
theorem qOK_long (h0:0≤nv) (h:¬ (us.length:Int)≤nv):qOK nv xs us=false:=by
 refine qOK_set (fun g=>h ?_)
 obtain ⟨n,rfl⟩:=Int.eq_ofNat_of_zero_le h0
 have:=set_len g;omega
end
end Go.Proofs.YtkohkoiegmcghaaDoor
namespace Go.Proofs.YtkohkoiegmcghaaDoor
set_option linter.unusedSimpArgs false
set_option linter.unusedVariables false
open Go.RowKit
def CellQ (v v':Value):Prop:=v'=v∨(∃ x x',v=.int .i64 x∧v'=.int .i64 x'∧I64 x')∨∃ s s',v=.string s∧v'=.string s'
structure MarkedQ (lo hi:Nat) (w w':World):Prop where
 os:w'.os=w.os
 tape:w'.tape=w.tape
 output:w'.output=w.output
 size:w.heap.size≤w'.heap.size
 out:∀ k,k<w.heap.size→(k<lo∨hi≤k)→w'.heap[k]? = w.heap[k]?
 cell:∀ p v,w.cell? p=some v→∃ v',w'.cell? p=some v'∧CellQ v v'
 frz:∀ p,w.cell? p ≠ none→w'.frozen? p=w.frozen? p
section
variable {fz:Bool} {lo hi B lo' hi':Nat} {w w':World} {a:Option Addr} {n c:Nat} {xs:List AtomD}
theorem beAtoms (h:AtomsA fz lo hi w a n c xs) (hb:Below B w w') (hh:hi≤B):AtomsA fz lo hi w' a n c xs:=SlA.be atomOK h hb hh
end
end Go.Proofs.YtkohkoiegmcghaaDoor
namespace Go.Proofs.YtkohkoiegmcghaaDoor
set_option linter.unusedSimpArgs false
set_option linter.unusedVariables false
open Go.RowKit
abbrev queryV (nv:Int) (a:Option Addr) (n:Nat) (c:Nat) (ua:Option Addr) (un:Nat) (uc:Nat):Value:=.agg #[.int .i64 nv,.slice a n c,.slice ua un uc]
def QueryA (fz:Bool) (lo hi:Nat) (w:World) (nv:Int) (a:Option Addr) (n:Nat) (c:Nat) (xs:List AtomD) (ua:Option Addr) (un:Nat) (uc:Nat) (us:List Int):Prop:=I64 nv∧AtomsA fz (lo) hi w a n c xs∧IntsA fz (lo) hi w ua un uc us
theorem beQuery {fz:Bool} {lo hi B:Nat} {w w':World} {nv:Int} {a:Option Addr} {n:Nat} {c:Nat} {xs:List AtomD} {ua:Option Addr} {un:Nat} {uc:Nat} {us:List Int} (h:QueryA fz lo hi w nv a n c xs ua un uc us) (hb:Below B w w') (hh:hi≤B):QueryA fz lo hi w' nv a n c xs ua un uc us:=⟨h.1,beAtoms h.2.1 hb hh,beInts h.2.2 hb hh⟩
end Go.Proofs.YtkohkoiegmcghaaDoor
namespace Go.Proofs.YtkohkoiegmcghaaDoor
set_option linter.unusedSimpArgs false
set_option linter.unusedVariables false
open Go.RowKit
theorem infoBool:(Tryd.prog.info? 4).map (fun i=>(i.zero,i.size,i.bytes))=some (some (.bool false),1,1):=by kernel_rfl
def BoolsAt (g:Nat) (w:World) (n:Nat) (us:List Bool):Prop:=w.ownsRow g 4 1 (.slice (some ⟨g,0,none⟩) n n) n (us.map Value.bool)
def bx (us:List Bool) (i:Nat):Bool:=us.getD i false
theorem BoolsAt.len {g:Nat} {w:World} {n:Nat} {us:List Bool} (h:BoolsAt g w n us):us.length=n:=by have:=h.1;simpa using this
theorem BoolsAt.cell {g:Nat} {w:World} {n:Nat} {us:List Bool} (h:BoolsAt g w n us) {q:Nat} (hq:q<n):w.cell? ⟨g,q,none⟩=some (.bool (bx us q))∧w.frozen? ⟨g,q,none⟩=false:=by
 have hl:=h.len
 have:=h.cells (g:=g) rfl q (.bool (bx us q)) (by rw [List.getElem?_map,List.getElem?_eq_getElem (by omega)];simp [bx,hl,hq])
 rw [Addr.add_lit] at this
 exact ⟨by simpa using this,h.frozenAt q⟩
theorem BoolsAt.be {g:Nat} {w w':World} {n:Nat} {us:List Bool} (h:BoolsAt g w n us) (hb:Below w.heap.size w w'):BoolsAt g w' n us :=
 World.ownsRow.kept h (row:=none) ⟨hb.os,hb.tape,hb.output,hb.size,fun k hk _=>hb.block k hk⟩ (.inr (by simp [Value.ownBlock]))
theorem BoolsAt.set {g:Nat} {w:World} {n:Nat} {us:List Bool} (h:BoolsAt g w n us) (q:Nat) (b:Bool):BoolsAt g (w.setCell ⟨g,q,none⟩ (.bool b)) n (us.set q b):=by
 have:=(h.stored q (.bool b)).1
 rw [show (us.map Value.bool).set q (.bool b)=(us.set q b).map Value.bool by rw [List.map_set]] at this
 exact this
theorem BoolsAt.lt {g:Nat} {w:World} {n:Nat} {us:List Bool} (h:BoolsAt g w n us):g<w.heap.size:=(World.ownsRow.lt h g rfl).2
def Seen (xs:List AtomD) (i j:Nat) (v:Nat):Prop:=(∃ i',i'<i∧occ (ax xs i').vs v=true)∨∃ j',j'<j∧ix (ax xs i).vs j'=(v:Int)
def SeenAll (xs:List AtomD) (i j n:Nat) (us:List Bool):Prop:=us.length=n∧∀ v,v<n→(bx us v=true↔Seen xs i j v)
theorem bx_set (us:List Bool) (q v:Nat) (hq:q<us.length):bx (us.set q true) v=true↔v=q∨bx us v=true:=by
 unfold bx
 by_cases e:v=q
 ·subst e;simp [List.getD,hq]
 ·simp only [List.getD,List.getElem?_set_ne (Ne.symm e)]
  exact ⟨fun h=>.inr h,fun h=>h.elim (fun h=>absurd h e) id⟩
theorem SeenAll.step {xs:List AtomD} {i j n q:Nat} {us:List Bool} (h:SeenAll xs i j n us) (hq:q<n) (hx:ix (ax xs i).vs j=(q:Int)):SeenAll xs i (j+1) n (us.set q true):=by
 refine ⟨by simpa using h.1,fun v hv=>?_⟩
 rw [bx_set us q v (by rw [h.1];exact hq),h.2 v hv]
 constructor
 ·rintro (rfl | h1 | ⟨j',h1,h2⟩)
  ·exact .inr ⟨j,by omega,hx⟩
  ·exact .inl h1
  ·exact .inr ⟨j',by omega,h2⟩
 ·rintro (h1 | ⟨j',h1,h2⟩)
  ·exact .inr (.inl h1)
  ·by_cases e:j'=j
   ·subst e;rw [hx] at h2;left;omega
   ·exact .inr (.inr ⟨j',by omega,h2⟩)
theorem SeenAll.next {xs:List AtomD} {i n:Nat} {us:List Bool} (h:SeenAll xs i (ax xs i).vs.length n us):SeenAll xs (i+1) 0 n us:=by
 refine ⟨h.1,fun v hv=>?_⟩
 rw [h.2 v hv]
 constructor
 ·rintro (⟨i',h1,h2⟩ | ⟨j',h1,h2⟩)
  ·exact .inl ⟨i',by omega,h2⟩
  ·refine .inl ⟨i,by omega,?_⟩
   cases ho:occ (ax xs i).vs v with
   | true=>rfl
   | false =>
    have:¬ 0≤findF (ax xs i).vs v:=by simpa [occ] using ho
    exact absurd h2 (findF_miss this j' h1)
 ·rintro (⟨i',h1,h2⟩ | ⟨j',h1,_⟩)
  ·by_cases e:i'=i
   ·subst e
    obtain ⟨j',g1,g2⟩:=findF_hit (by simpa [occ] using h2)
    exact .inr ⟨j',g1,g2⟩
   ·exact .inl ⟨i',by omega,h2⟩
  ·omega
theorem SeenAll.start (xs:List AtomD) (n:Nat):SeenAll xs 0 0 n (List.replicate n false):=by
 refine ⟨by simp,fun v hv=>?_⟩
 constructor
 ·intro h;simp [bx,hv] at h
 ·rintro (⟨i',h1,_⟩ | ⟨j',h1,_⟩) <;> omega
theorem SeenAll.cov {xs:List AtomD} {n:Nat} {us:List Bool} (h:SeenAll xs xs.length 0 n us) (ha:∀ v,v<n→bx us v=true):CovOK n xs:=by
 intro v hv
 have:=(h.2 v (by omega)).1 (ha v (by omega))
 rcases this with ⟨i,h1,h2⟩ | ⟨j',h1,_⟩
 ·exact ⟨i,h1,h2⟩
 ·omega
theorem SeenAll.nocov {xs:List AtomD} {n:Nat} {us:List Bool} (h:SeenAll xs xs.length 0 n us) {v:Nat} (hv:v<n) (ha:bx us v=false):¬ CovOK n xs:=by
 intro hc
 obtain ⟨i,h1,h2⟩:=hc v (by omega)
 have:=(h.2 v hv).2 (.inl ⟨i,h1,h2⟩)
 rw [ha] at this;cases this
theorem intsAtB {fz:Bool} {lo hi:Nat} {w:World} {a:Option Addr} {n c:Nat} {xs:List Int} (h:IntsA fz lo hi w a n c xs) {i:Nat} (hi':i<n) :
 ∃ b off,a=some ⟨b,off,none⟩∧w.cell? ⟨b,off+i,none⟩=some (.int .i64 (ix xs i))∧I64 (ix xs i):=by
 obtain ⟨b,off,rfl,_,_,hc,_⟩:=h.open (by omega)
 exact ⟨b,off,rfl,hc i hi',h.at hi'⟩
theorem setB_iff (us:List Int) (n:Int):setB us n=true↔SetTo us n us.length:=by simp [setB]
set_option maxRecDepth 100000 in
set_option maxHeartbeats 6400000 in
theorem implValidQ {fz:Bool} {lo hi:Nat} (nv:Int) (a:Option Addr) (n c:Nat) (xs:List AtomD) (ua:Option Addr) (un uc:Nat) (us:List Int) (w:World) (hI:QueryA fz lo hi w nv a n c xs ua un uc us) (hh:hi≤w.heap.size) :
 Calls Tryd.prog 28 #[queryV nv a n c ua un uc] w (Leaves w (.bool (qOK nv xs us))):=by
 have hlx:=hI.2.1.len
 have hsx:=hI.2.1.small
 have HL:=hid (And.intro hlx hI.2.2.len);clear hlx
 have HI:=hid hI;clear hI
 by_cases h1:1≤nv∧nv≤5
 ·have hd1:decide (1≤nv∧nv≤5)=true:=by simpa using h1
  obtain ⟨m,rfl⟩:=Int.eq_ofNat_of_zero_le (show 0≤nv by omega)
  have hm1:1≤m:=by omega
  have hm5:m≤5:=by omega
  by_cases h2:(1:Int)≤n∧(n:Int)≤4
  ·have hd2:decide ((1:Int)≤n∧(n:Int)≤4)=true:=by simpa using h2
   obtain ⟨sb,hsb⟩:∃ sb,setB us m=sb:=⟨_,rfl⟩
   have HSB:=hid hsb;clear hsb
   cases sb with
   | false =>
    have HF:=hid (qOK_set (nv:=(m:Int)) (xs:=xs) (us:=us) (fun g=>by have:=(setB_iff us m).2 g;rw [HSB.out] at this;cases this))
    have H12:=hid (And.intro h1 h2);clear h1 h2
    go_enter Tryd.func28,Tryd.ntmps28
    go_wp2_with fail
    refine (implWithin (m:Int) 1 5 _).mono ?_
    rintro e w1 ⟨rfl,m1,rfl⟩
    rw [hd1]
    go_wp2_with fail
    refine (implWithin (n:Int) 1 4 _).mono ?_
    rintro e w2 ⟨rfl,m2,rfl⟩
    rw [hd2]
    go_wp2_with fail
    refine (implIsSet ua un uc us m _ (beInts (B:=w.heap.size) HI.out.2.2 belA hh) (by omega) (by omega)).mono ?_
    rintro e w3 ⟨rfl,m3,rfl⟩
    rw [HSB.out]
    go_wp2_with fail
    go_ret
    exact ⟨by rw [HF.out];rfl,belA⟩
   | true =>
    have HST:=hid ((setB_iff us m).1 HSB.out)
    have HHD:Hid (HeadOK m xs.length):=hid ⟨h1,by have:=HL.out.1;omega⟩
    have H12:=hid (And.intro h1 h2);clear h1 h2
    obtain ⟨i0,hi0,hz0,hz1,hz2⟩:=info_parts infoBool
    go_enter Tryd.func28,Tryd.ntmps28
    go_wp2_with fail
    refine (implWithin (m:Int) 1 5 _).mono ?_
    rintro e w1 ⟨rfl,m1,rfl⟩
    rw [hd1]
    go_wp2_with fail
    refine (implWithin (n:Int) 1 4 _).mono ?_
    rintro e w2 ⟨rfl,m2,rfl⟩
    rw [hd2]
    go_wp2_with fail
    refine (implIsSet ua un uc us m _ (beInts (B:=w.heap.size) HI.out.2.2 belA hh) (by omega) (by omega)).mono ?_
    rintro e w3 ⟨rfl,m3,hw3⟩
    rw [HSB.out]
    have k0:w3.cell? ⟨w.heap.size,0,none⟩=some (.int .i64 m):=by rw [hw3];simp
    have k1:w3.cell? ⟨w.heap.size,1,none⟩=some (.slice a n c):=by rw [hw3];simp
    have hb3:Below w.heap.size w w3:=by rw [hw3];exact belA
    have hz3:w.heap.size<w3.heap.size:=World.block_lt_of_cell? _ _ k0
    have HB3:=hid hb3;clear hb3 hw3
    go_wp2_with (at_make;refine wpList_make_full _ rfl _ _ 82 rfl w3.heap.size 4 i0 (.bool false) 1 Tryd.underlying82 hi0 hz0 hz1 _ _ _ _ m rfl rfl rfl rfl ?b1 ?b2 ?b3 ?_)
    case b1=>rw [hz2];omega
    case b2=>unfold maxLen;omega
    case b3=>exact Nat.le_refl _
    intro w4 hown hgrow
    have hb4:Below w3.heap.size w3 w4:=(Below.refl _ _).grown hgrow (Nat.le_refl _) (fun k h=>by cases h)
    have hU:BoolsAt w3.heap.size w4 m (List.replicate m false):=by
     have:=hown
     rw [toList_madeCells_one] at this
     unfold BoolsAt
     rw [List.map_replicate];exact this
    have hz4:=hU.lt
    replace k0:w4.cell? ⟨w.heap.size,0,none⟩=some (.int .i64 m):=by rw [(bcell hb4).1 _ _ hz3];exact k0
    replace k1:w4.cell? ⟨w.heap.size,1,none⟩=some (.slice a n c):=by rw [(bcell hb4).1 _ _ hz3];exact k1
    have HA:=hid (beAtoms HI.out.2.1 (HB3.out.trans (hb4.mono (by omega))) hh)
    have HU:=hid hU
    have HB4:=hid (HB3.out.trans (hb4.mono (show w.heap.size≤w3.heap.size by omega)))
    clear hb4 hown hgrow hU
    obtain ⟨g,hg⟩:∃ g,g=w3.heap.size:=⟨_,rfl⟩
    have HUg:Hid (BoolsAt g w4 m (List.replicate m false)):=hid (by rw [hg];exact HU.out)
    have hgw:w.heap.size<g:=by omega
    have hg4:g<w4.heap.size:=by omega
    rw [← hg]
    have HG:=hid hg;clear hg HU
    go_wp2_with fail
    go_loopw [35] (fun s wr=>∃ (i:Nat) (bs:List Bool),s=.int .i64 i∧i≤n∧Hid (BoolsAt g wr m bs)∧Hid (SeenAll xs i 0 m bs)∧Hid (∀ j,j<i→AtomOK m (ax xs j))∧Hid (Below g w4 wr)) (fun s _=>n - (intOf s).toNat)
    case atStart=>exact ⟨0,_,rfl,by omega,HUg,hid (SeenAll.start xs m),hid (fun j hj=>by omega),hid (Below.refl _ _)⟩
    case round =>
     obtain ⟨i,bs,rfl,hi,HBS,HSN,HAO,HBW⟩:=hrel
     have hzr:=HBW.out.size
     have HBWW:=hid (HB4.out.trans (HBW.out.mono (show w.heap.size≤g by omega)))
     by_cases hlt:i<n
     ·have hAr:=beAtoms HI.out.2.1 HBWW.out hh
      obtain ⟨b,off,rfl⟩:=atomsSome hAr (by omega)
      obtain ⟨_,_,hsz,ra,rn,rc,d0,d1,hr,_⟩:=atomsAt hAr hlt
      have hrl:=hr.len
      have hrs:=hr.small
      have HAR:=hid (And.intro hAr hr);clear hAr hr
      have HRL:=hid hrl;clear hrl
      obtain ⟨nb,hnb⟩:∃ nb,nameOK (ax xs i).nm=nb:=⟨_,rfl⟩
      have HNB:=hid hnb;clear hnb
      obtain ⟨nm,hnm⟩:∃ nm,nm=(ax xs i).nm:=⟨_,rfl⟩
      rw [← hnm] at d0 hsz
      have HNM:=hid hnm;clear hnm
      have HFA:=hid (fun (hn:¬ AtomOK m (ax xs i))=>qOK_atom (us:=us) (by rw [HL.out.1];exact hlt) hn)
      have HNC:=hid (fun w'=>by have:=implName nm w' hsz;rwa [show nameOK nm=nb by rw [HNM.out];exact HNB.out] at this)
      cases nb with
      | false =>
       have HF:=hid (HFA.out (fun g=>by have:=g.1;rw [HNB.out] at this;cases this))
       go_wp2_with fail
       refine (HNC.out _).mono ?_
       rintro e w5 ⟨rfl,hb5⟩
       have HB5:=hid (Below.trans (B:=w.heap.size) (Below.trans HBWW.out belA) (hb5.mono leA));clear hb5
       go_wp2_with fail
       go_ret
       exact ⟨by rw [HF.out];rfl,HB5.out⟩
      | true =>
       by_cases h5:(1:Int)≤rn∧(rn:Int)≤5
       ·have hd5:decide ((1:Int)≤rn∧(rn:Int)≤5)=true:=by simpa using h5
        have hr5:rn≤5:=by omega
        have H5:=hid h5;clear h5
        go_wp2_with fail
        refine (HNC.out _).mono ?_
        rintro e w5 ⟨rfl,hb5⟩
        have c50:w5.cell? ⟨wr.heap.size,0,none⟩=some (.string nm):=(by rw [(bcell hb5).1 _ _ (by first | omega | (simp;done) | (simp;omega))];first | with_reducible assumption | (go_simp;done) | assumption | (simp [World.cell?];done))
        have c51:w5.cell? ⟨wr.heap.size,1,none⟩=some (.slice ra rn rc):=(by rw [(bcell hb5).1 _ _ (by first | omega | (simp;done) | (simp;omega))];first | with_reducible assumption | (go_simp;done) | assumption | (simp [World.cell?];done))
        have hz5:wr.heap.size<w5.heap.size:=World.block_lt_of_cell? _ _ c50
        have hb6:Below wr.heap.size wr w5:=Below.trans belA (hb5.mono leA)
        have HB6:=hid hb6
        have HBS5:=hid (HBS.out.be hb6)
        have HBW5:=hid (HBW.out.trans (hb6.mono (by omega)))
        clear hb5 hb6
        go_wp2_with fail
        refine (implWithin (rn:Int) 1 5 _).mono ?_
        rintro e w6 ⟨rfl,m6,hw6⟩
        rw [hd5]
        replace c50:w6.cell? ⟨wr.heap.size,0,none⟩=some (.string nm):=by rw [hw6];exact c50
        replace c51:w6.cell? ⟨wr.heap.size,1,none⟩=some (.slice ra rn rc):=by rw [hw6];exact c51
        have HBS6:Hid (BoolsAt g w6 m bs):=hid (by rw [hw6];exact HBS5.out)
        have HBW6:Hid (Below g w4 w6):=hid (by rw [hw6];exact below_drewN HBW5.out _)
        clear hw6
        go_wp2_with fail
        obtain ⟨wo,hwo⟩:∃ wo:World,wo=wr:=⟨_,rfl⟩
        rw [← hwo] at *
        clear hwo
        go_loopw [53] (fun s wr=>∃ (j:Nat) (bs:List Bool),s=.int .i64 j∧j≤rn∧Hid (BoolsAt g wr m bs)∧Hid (SeenAll xs i j m bs)∧Hid (∀ q,q<j→0≤ix (ax xs i).vs q∧ix (ax xs i).vs q≤(m:Int) - 1)∧Hid (Below g w4 wr)) (fun s _=>rn - (intOf s).toNat)
        case atStart=>exact ⟨0,bs,rfl,by omega,HBS6,HSN,hid (fun q hq=>by omega),HBW6⟩
        case round =>
         obtain ⟨j,cs,rfl,hj,HCS,HSC,HVV,HCW⟩:=hrel
         have hzc:=HCW.out.size
         have HCWW:=hid (HB4.out.trans (HCW.out.mono (show w.heap.size≤g by omega)))
         have hAc:=beAtoms HI.out.2.1 HCWW.out hh
         obtain ⟨_,_,_,ra',rn',rc',_,d1',hr',_⟩:=atomsAt hAc hlt
         have hrr:wr.cell? ⟨b,off+i*2+1,none⟩=some (.slice ra rn rc):=by
          have hbg:b<g:=by
           obtain ⟨b',o',e,_,h2,_⟩:=HI.out.2.1.open (show 0<n by omega)
           simp only [Option.some.injEq,Addr.mk.injEq,and_true] at e
           omega
          rw [HCW.out.cell (p:=⟨b,off+i*2+1,none⟩) hbg,← HBW.out.cell (p:=⟨b,off+i*2+1,none⟩) hbg]
          exact d1
         rw [hrr] at d1'
         simp only [Option.some.injEq,Value.slice.injEq] at d1'
         obtain ⟨rfl,rfl,rfl⟩:=d1'
         clear hrr
         have HRC:=hid (And.intro hAc hr');clear hAc hr'
         by_cases hltj:j<rn
         ·obtain ⟨vb,vo,rfl,y0,_⟩:=intsAtB HRC.out.2 hltj
          have HX0:=hid (show ix (ax xs i).vs j=ix (ax xs i).vs j from rfl)
          obtain ⟨x,hx⟩:∃ x,ix (ax xs i).vs j=x:=⟨_,rfl⟩
          rw [hx] at y0
          have hw1:IntKind.i64.wrap ((m:Int) - 1)=(m:Int) - 1:=IntWalk.i64_in _ (by omega)
          by_cases h6:0≤x∧x≤(m:Int) - 1
          ·have hd6:decide (0≤x∧x≤(m:Int) - 1)=true:=by simpa using h6
           obtain ⟨q,rfl⟩:=Int.eq_ofNat_of_zero_le h6.1
           have hqm:q<m:=by omega
           have HSC2:=hid (HSC.out.step hqm hx)
           have HVV2:Hid (∀ q,q<j+1→0≤ix (ax xs i).vs q∧ix (ax xs i).vs q≤(m:Int) - 1):=hid (fun q' hq'=>by
            by_cases e:q'=j
            ·subst e;rw [hx];exact h6
            ·exact HVV.out q' (by omega))
           obtain ⟨u0,u1⟩:=HCS.out.cell hqm
           have HCS2:=hid (HCS.out.set q true)
           have HCW2:Hid (Below g w4 (wr.setCell ⟨g,q,none⟩ (.bool true))):=hid (Below.setCell HCW.out (Nat.le_refl _) _)
           have hqi:(q:Int)<(m:Int):=by omega
           have H6:=hid (And.intro h6 hx);clear h6 hx
           go_wp2_with fail
           refine (implWithin (q:Int) 0 ((m:Int) - 1) _).mono ?_
           rintro e w7 ⟨rfl,m7,rfl⟩
           rw [hd6]
           go_wp2_with fail
           go_roundw
           case rel=>exact ⟨j+1,_,by go_num,by omega,hid HCS2.out,HSC2,HVV2,hid (below_drewN HCW2.out _)⟩
           case measure=>simp [intOf];omega
          ·have hd6:decide (0≤x∧x≤(m:Int) - 1)=false:=by simpa using h6
           have HF:=hid (HFA.out (fun g=>h6 (by have:=g.2.2 j (by rw [HRL.out];exact hltj);rwa [hx] at this)))
           have H6:=hid (And.intro h6 hx);clear h6 hx
           go_wp2_with fail
           refine (implWithin x 0 ((m:Int) - 1) _).mono ?_
           rintro e w7 ⟨rfl,m7,rfl⟩
           rw [hd6]
           go_wp2_with fail
           go_ret
           exact ⟨by rw [HF.out];rfl,below_drewN HCWW.out _⟩
         ·have hjl:j=(ax xs i).vs.length:=by have:=HRL.out;omega
          have HSN2:Hid (SeenAll xs (i+1) 0 m cs):=hid (SeenAll.next (by have:=HSC.out;rwa [hjl] at this))
          have HAO2:Hid (∀ q,q<i+1→AtomOK m (ax xs q)):=hid (fun q hq=>by
           by_cases e:q=i
           ·subst e;exact ⟨HNB.out,by have:=HRL.out;have:=H5.out;omega,fun t ht=>HVV.out t (by omega)⟩
           ·exact HAO.out q (by omega))
          clear hjl
          go_wp2_with fail
          go_roundw
          case rel=>exact ⟨i+1,cs,by go_num,by omega,HCS,HSN2,HAO2,HCW⟩
          case measure=>simp [intOf];omega
       ·have hd5:decide ((1:Int)≤rn∧(rn:Int)≤5)=false:=by simpa using h5
        have HF:=hid (HFA.out (fun g=>h5 (by have g2:=g.2.1;have:=HRL.out;omega)))
        have H5:=hid h5;clear h5
        go_wp2_with fail
        refine (HNC.out _).mono ?_
        rintro e w5 ⟨rfl,hb5⟩
        have c50:w5.cell? ⟨wr.heap.size,0,none⟩=some (.string nm):=(by rw [(bcell hb5).1 _ _ (by first | omega | (simp;done) | (simp;omega))];first | with_reducible assumption | (go_simp;done) | assumption | (simp [World.cell?];done))
        have c51:w5.cell? ⟨wr.heap.size,1,none⟩=some (.slice ra rn rc):=(by rw [(bcell hb5).1 _ _ (by first | omega | (simp;done) | (simp;omega))];first | with_reducible assumption | (go_simp;done) | assumption | (simp [World.cell?];done))
        have HB5:=hid (Below.trans (B:=w.heap.size) (Below.trans HBWW.out belA) (hb5.mono leA));clear hb5
        go_wp2_with fail
        refine (implWithin (rn:Int) 1 5 _).mono ?_
        rintro e w6 ⟨rfl,m6,rfl⟩
        rw [hd5]
        go_wp2_with fail
        go_ret
        exact ⟨by rw [HF.out];rfl,below_drewN HB5.out _⟩
     ·have hin:i=xs.length:=by have:=HL.out.1;omega
      have HSE:Hid (SeenAll xs xs.length 0 m bs):=hid (by have:=HSN.out;rwa [hin] at this)
      have HAE:Hid (∀ j,j<xs.length→AtomOK m (ax xs j)):=hid (by have:=HAO.out;rwa [hin] at this)
      clear hin
      go_wp2_with fail
      go_loopw [69] (fun s wq=>∃ k:Nat,s=.int .i64 k∧k≤m∧Hid (∀ v,v<k→bx bs v=true)∧wq=wr) (fun s _=>m - (intOf s).toNat)
      case atStart=>exact ⟨0,rfl,by omega,hid (fun v hv=>by omega),rfl⟩
      case round =>
       obtain ⟨k,rfl,hk,HT,rfl⟩:=hrel
       by_cases hlt2:k<m
       ·obtain ⟨y0,_⟩:=HBS.out.cell hlt2
        obtain ⟨ub,hub⟩:∃ ub,bx bs k=ub:=⟨_,rfl⟩
        rw [hub] at y0
        cases ub with
        | true =>
         have HT2:Hid (∀ v,v<k+1→bx bs v=true):=hid (fun v hv=>by
          by_cases e:v=k
          ·subst e;exact hub
          ·exact HT.out v (by omega))
         clear hub
         go_wp2_with fail
         go_roundw
         case rel=>exact ⟨k+1,by go_num,by omega,HT2,by first | rfl | trivial⟩
         case measure=>simp [intOf];omega
        | false =>
         have HF:=hid (qOK_cov (us:=us) (HSE.out.nocov hlt2 hub))
         clear hub
         go_wp2_with fail
         go_ret
         exact ⟨by rw [HF.out];rfl,HBWW.out⟩
       ·have HF:=hid (qOK_yes HHD.out HST.out HAE.out (HSE.out.cov (fun v hv=>HT.out v (by omega))))
        go_wp2_with fail
        go_ret
        exact ⟨by rw [HF.out];rfl,HBWW.out⟩
  ·have hd2:decide ((1:Int)≤n∧(n:Int)≤4)=false:=by simpa using h2
   have HF:=hid (qOK_head (nv:=(m:Int)) (xs:=xs) (us:=us) (fun g=>h2 (by have:=g.2;have:=HL.out.1;omega)))
   have H12:=hid (And.intro h1 h2);clear h1 h2
   go_enter Tryd.func28,Tryd.ntmps28
   go_wp2_with fail
   refine (implWithin (m:Int) 1 5 _).mono ?_
   rintro e w1 ⟨rfl,m1,rfl⟩
   rw [hd1]
   go_wp2_with fail
   refine (implWithin (n:Int) 1 4 _).mono ?_
   rintro e w2 ⟨rfl,m2,rfl⟩
   rw [hd2]
   go_wp2_with fail
   go_ret
   exact ⟨by rw [HF.out];rfl,belA⟩
 ·have hd1:decide (1≤nv∧nv≤5)=false:=by simpa using h1
  have HF:=hid (qOK_head (xs:=xs) (us:=us) (fun g=>h1 g.1))
  go_enter Tryd.func28,Tryd.ntmps28
  go_wp2_with fail
  refine (implWithin nv 1 5 _).mono ?_
  rintro e w1 ⟨rfl,m1,rfl⟩
  rw [hd1]
  go_wp2_with fail
  go_ret
  exact ⟨by rw [HF.out];rfl,belA⟩
end Go.Proofs.YtkohkoiegmcghaaDoor
namespace Go.Proofs.YtkohkoiegmcghaaDoor
set_option linter.unusedSimpArgs false
set_option linter.unusedVariables false
open Go.RowKit
set_option maxRecDepth 100000 in
set_option maxHeartbeats 6400000 in
theorem specValidQ {fz:Bool} {lo hi:Nat} (nv:Int) (a:Option Addr) (n c:Nat) (xs:List AtomD) (ua:Option Addr) (un uc:Nat) (us:List Int) (w:World) (hI:QueryA fz lo hi w nv a n c xs ua un uc us) (hh:hi≤w.heap.size) :
 Calls Tryd.prog 17 #[queryV nv a n c ua un uc] w (Leaves w (.bool (qOK nv xs us))):=by
 have hlx:=hI.2.1.len
 have hsx:=hI.2.1.small
 have hsu:=hI.2.2.small
 have hlu:=hI.2.2.len
 have huc:=hI.2.2.2.1
 have hum:=hI.2.2.2.2.1
 have HL:=hid (And.intro hlx hlu);clear hlx hlu
 obtain ⟨W,hW⟩:∃ W,W=w.alloc (.cells #[.int .i64 nv,.slice a n c,.slice ua un uc] 27):=⟨_,rfl⟩
 have hBW:Below w.heap.size w W:=by rw [hW];exact belA
 have hz:w.heap.size<W.heap.size:=by rw [hW];simp
 have c0:W.cell? ⟨w.heap.size,0,none⟩=some (.int .i64 nv):=by rw [hW];simp
 have c1:W.cell? ⟨w.heap.size,1,none⟩=some (.slice a n c):=by rw [hW];simp
 have c2:W.cell? ⟨w.heap.size,2,none⟩=some (.slice ua un uc):=by rw [hW];simp
 have HI:=hid (beQuery hI hBW hh)
 have HW:=hid (And.intro hW hBW);clear hW hBW hI
 by_cases h1:1≤nv∧nv≤5
 ·have hd1:decide (1≤nv∧nv≤5)=true:=by simpa using h1
  obtain ⟨m,rfl⟩:=Int.eq_ofNat_of_zero_le (show 0≤nv by omega)
  have hm1:1≤m:=by omega
  have hm5:m≤5:=by omega
  by_cases h2:(1:Int)≤n∧(n:Int)≤4
  ·have hd2:decide ((1:Int)≤n∧(n:Int)≤4)=true:=by simpa using h2
   by_cases h3:un≤m
   ·have HHD:Hid (HeadOK m xs.length):=hid ⟨h1,by have:=HL.out.1;omega⟩
    have hn4:n≤4:=by omega
    have H12:=hid (And.intro h1 h2);clear h1 h2
    have hw1:IntKind.i64.wrap ((m:Int) - 1)=(m:Int) - 1:=IntWalk.i64_in _ (by omega)
    go_enter Tryd.func17,Tryd.ntmps17
    go_upto_region 1 with fail
    rw [← HW.out.1]
    go_wp2_with fail
    refine (specIn (m:Int) 1 5 _).mono ?_
    rintro e w1 ⟨rfl,m1,rfl⟩
    rw [hd1]
    go_wp2_with fail
    refine (specIn (n:Int) 1 4 _).mono ?_
    rintro e w2 ⟨rfl,m2,rfl⟩
    rw [hd2]
    go_wp2_with fail
    simp only [show ∀ (inst:Decidable (m<un)),@decide (m<un) inst=false from fun inst=>decide_eq_false (by omega)]
    go_loopw [3] (fun s wr=>∃ i:Nat,s=.int .i64 i∧i≤n∧Hid (∀ j,j<i→AtomOK m (ax xs j))∧Hid (Below W.heap.size W wr)) (fun s _=>n - (intOf s).toNat)
    case atStart=>exact ⟨0,rfl,by omega,hid (fun j hj=>by omega),hid belA⟩
    case round =>
     obtain ⟨i,rfl,hin,HAO,HB⟩:=hrel
     have hzr:=HB.out.size
     have d0:wr.cell? ⟨w.heap.size,0,none⟩=some (.int .i64 m):=by rw [(bcell HB.out).1 _ _ hz];exact c0
     have d1:wr.cell? ⟨w.heap.size,1,none⟩=some (.slice a n c):=by rw [(bcell HB.out).1 _ _ hz];exact c1
     by_cases hlt:i<n
     ·have hAr:=beAtoms HI.out.2.1 HB.out (by omega)
      obtain ⟨b,off,rfl⟩:=atomsSome hAr (by omega)
      obtain ⟨_,_,hsz,ra,rn,rc,y0,y1,hr,_⟩:=atomsAt hAr hlt
      have hrl:=hr.len
      have hrs:=hr.small
      have HR:=hid (And.intro hAr hr);clear hAr hr
      have HRL:=hid hrl;clear hrl
      obtain ⟨nb,hnb⟩:∃ nb,nameOK (ax xs i).nm=nb:=⟨_,rfl⟩
      have HNB:=hid hnb;clear hnb
      obtain ⟨nm,hnm⟩:∃ nm,nm=(ax xs i).nm:=⟨_,rfl⟩
      rw [← hnm] at y0 hsz
      have HNM:=hid hnm;clear hnm
      have HFA:=hid (fun (hn:¬ AtomOK m (ax xs i))=>qOK_atom (us:=us) (by rw [HL.out.1];exact hlt) hn)
      have HNC:=hid (fun w'=>by have:=specName nm w' hsz;rwa [show nameOK nm=nb by rw [HNM.out];exact HNB.out] at this)
      cases nb with
      | false =>
       have HF:=hid (HFA.out (fun g=>by have:=g.1;rw [HNB.out] at this;cases this))
       go_wp2_with fail
       refine (HNC.out _).mono ?_
       rintro e w5 ⟨rfl,hb5⟩
       have HB5:=hid (Below.calm HB.out hb5);clear hb5
       go_wp2_with fail
       go_ret
       exact ⟨by rw [HF.out];rfl,HW.out.2.trans (HB5.out.mono (by omega))⟩
      | true =>
       go_wp2_with fail
       refine (HNC.out _).mono ?_
       rintro e w5 ⟨rfl,hb5⟩
       have hzz:w.heap.size<wr.heap.size:=by omega
       have hbw:b<wr.heap.size:=World.block_lt_of_cell? _ _ y0
       replace d0:w5.cell? ⟨w.heap.size,0,none⟩=some (.int .i64 m):=by rw [(bcell hb5).1 _ _ hzz];exact d0
       replace d1:w5.cell? ⟨w.heap.size,1,none⟩=some (.slice (some ⟨b,off,none⟩) n c):=by rw [(bcell hb5).1 _ _ hzz];exact d1
       replace y1:w5.cell? ⟨b,off+i*2+1,none⟩=some (.slice ra rn rc):=by rw [(bcell hb5).1 _ _ hbw];exact y1
       have HB5:=hid (Below.calm HB.out hb5)
       have HR5:=hid (beInts HR.out.2 hb5 (by omega))
       clear hb5 y0
       by_cases h5:(1:Int)≤rn∧(rn:Int)≤5
       ·have hd5:decide ((1:Int)≤rn∧(rn:Int)≤5)=true:=by simpa using h5
        have H5:=hid h5;clear h5
        go_wp2_with fail
        refine (specIn (rn:Int) 1 5 _).mono ?_
        rintro e w6 ⟨rfl,m6,rfl⟩
        rw [hd5]
        go_wp2_with fail
        go_loopw [4] (fun s wr=>∃ j:Nat,s=.int .i64 j∧j≤rn∧Hid (∀ q,q<j→0≤ix (ax xs i).vs q∧ix (ax xs i).vs q≤(m:Int) - 1)∧Hid (∃ q,wr=w5.drewN q)) (fun s _=>rn - (intOf s).toNat)
        case atStart=>exact ⟨0,rfl,by omega,hid (fun q hq=>by omega),hid ⟨_,rfl⟩⟩
        case round =>
         obtain ⟨j,rfl,hj,HVV,HD⟩:=hrel
         have d0':wr.cell? ⟨w.heap.size,0,none⟩=some (.int .i64 m):=by obtain ⟨q,rfl⟩:=HD.out;exact d0
         have d1':wr.cell? ⟨w.heap.size,1,none⟩=some (.slice (some ⟨b,off,none⟩) n c):=by obtain ⟨q,rfl⟩:=HD.out;exact d1
         have y1':wr.cell? ⟨b,off+i*2+1,none⟩=some (.slice ra rn rc):=by obtain ⟨q,rfl⟩:=HD.out;exact y1
         have hbx:∀ q,Below W.heap.size W (wr.drewN q):=by obtain ⟨q,rfl⟩:=HD.out;exact fun q'=>below_drewN (below_drewN HB5.out _) _
         have HBX:=hid hbx;clear hbx
         by_cases hltj:j<rn
         ·obtain ⟨vb,vo,rfl,x0,_⟩:=intsAtB (kpInts HR5.out (keeps_dr _ _ HD.out)) hltj
          obtain ⟨x,hx⟩:∃ x,ix (ax xs i).vs j=x:=⟨_,rfl⟩
          rw [hx] at x0
          have hcI:=hid (fun w'=>specIn x 0 ((m:Int) - 1) w')
          by_cases h6:0≤x∧x≤(m:Int) - 1
          ·have HC:Hid (∀ w',Calls Tryd.prog 41 #[.int .i64 x,.int .i64 0,.int .i64 ((m:Int) - 1)] w' (Gives w' (.bool true))):=hid (fun w'=>by have:=hcI.out w';rwa [show decide (0≤x∧x≤(m:Int) - 1)=true by simpa using h6] at this)
           have HVV2:Hid (∀ q,q<j+1→0≤ix (ax xs i).vs q∧ix (ax xs i).vs q≤(m:Int) - 1):=hid (fun q' hq'=>by
            by_cases e:q'=j
            ·subst e;rw [hx];exact h6
            ·exact HVV.out q' (by omega))
           have H6:=hid (And.intro h6 hx);clear h6 hx
           go_wp2_with fail
           go_quiet ((go_at_call 41;exact (Calls.quiet_of (HC.out _))))
           go_wp2_with fail
           go_roundw
           case rel=>exact ⟨j+1,by go_num,by omega,HVV2,hid (by first | exact HD.out | exact dr_more HD.out _ | (rw [dd];exact dr_more HD.out _) | (rw [dd,dd];exact dr_more HD.out _) | exact ⟨_,rfl⟩ | exact ⟨_,dd⟩)⟩
           case measure=>simp [intOf];omega
          ·have HC:Hid (∀ w',Calls Tryd.prog 41 #[.int .i64 x,.int .i64 0,.int .i64 ((m:Int) - 1)] w' (Gives w' (.bool false))):=hid (fun w'=>by have:=hcI.out w';rwa [show decide (0≤x∧x≤(m:Int) - 1)=false by simpa using h6] at this)
           have HF:=hid (HFA.out (fun g=>h6 (by have:=g.2.2 j (by rw [HRL.out];exact hltj);rwa [hx] at this)))
           have H6:=hid (And.intro h6 hx);clear h6 hx
           go_wp2_with fail
           go_quiet ((go_at_call 41;exact (Calls.quiet_of (HC.out _))))
           go_wp2_with fail
           go_ret
           exact ⟨by rw [HF.out];rfl,HW.out.2.trans ((HBX.out _).mono (by omega))⟩
         ·have HAO2:Hid (∀ q,q<i+1→AtomOK m (ax xs q)):=hid (fun q hq=>by
           by_cases e:q=i
           ·subst e;exact ⟨HNB.out,by have:=HRL.out;have:=H5.out;omega,fun t ht=>HVV.out t (by have:=HRL.out;omega)⟩
           ·exact HAO.out q (by omega))
          go_wp2_with fail
          go_roundw
          case rel=>exact ⟨i+1,by go_num,by omega,HAO2,hid (HBX.out 0)⟩
          case measure=>simp [intOf];omega
       ·have hd5:decide ((1:Int)≤rn∧(rn:Int)≤5)=false:=by simpa using h5
        have HF:=hid (HFA.out (fun g=>h5 (by have g2:=g.2.1;have:=HRL.out;omega)))
        have H5:=hid h5;clear h5
        go_wp2_with fail
        refine (specIn (rn:Int) 1 5 _).mono ?_
        rintro e w6 ⟨rfl,m6,rfl⟩
        rw [hd5]
        go_wp2_with fail
        go_ret
        exact ⟨by rw [HF.out];rfl,HW.out.2.trans ((below_drewN HB5.out _).mono (by omega))⟩
     ·have HAE:Hid (∀ j,j<xs.length→AtomOK m (ax xs j)):=hid (fun j hj=>HAO.out j (by have:=HL.out.1;omega))
      have HBA:=hid (HW.out.2.trans (HB.out.mono (show w.heap.size≤W.heap.size by omega)))
      have HIA:=hid (beQuery HI.out HB.out (by omega))
      obtain ⟨wz,hwz⟩:∃ wz,wz=wr.heap.size:=⟨_,rfl⟩
      have hzz:w.heap.size<wz:=by omega
      go_wp2_with fail
      go_loopw [5] (fun s w2=>∃ v:Nat,s=.int .i64 v∧v≤m∧Hid (∀ u,u<v→∃ i,i<xs.length∧occ (ax xs i).vs u=true)∧Hid (Below W.heap.size W w2)) (fun s _=>m - (intOf s).toNat)
      case atStart=>exact ⟨0,rfl,by omega,hid (fun j hj=>by omega),HB⟩
      case round =>
       obtain ⟨v,rfl,hv,HCV,HB2⟩:=hrel
       have hz2:=HB2.out.size
       have e0:wr.cell? ⟨w.heap.size,0,none⟩=some (.int .i64 m):=by rw [(bcell HB2.out).1 _ _ hz];exact c0
       have e2:wr.cell? ⟨w.heap.size,2,none⟩=some (.slice ua un uc):=by rw [(bcell HB2.out).1 _ _ hz];exact c2
       by_cases hlt2:v<m
       ·go_wp2_with fail
        go_loopw [6,7] (fun s6 s7 w3=>∃ (b:Bool) (k:Nat),s6=.bool b∧s7=.int .i64 k∧k≤n∧Hid (b=true↔∃ i',i'<k∧occ (ax xs i').vs v=true)∧Hid (Below W.heap.size W w3)) (fun _ s _=>n - (intOf s).toNat)
        case atStart=>exact ⟨false,0,rfl,rfl,by omega,hid (by simp),HB2⟩
        case round =>
         obtain ⟨b,k,rfl,rfl,hk,HBK,HB3⟩:=hrel
         have hz3:=HB3.out.size
         have f0:wr.cell? ⟨w.heap.size,0,none⟩=some (.int .i64 m):=by rw [(bcell HB3.out).1 _ _ hz];exact c0
         have f1:wr.cell? ⟨w.heap.size,1,none⟩=some (.slice a n c):=by rw [(bcell HB3.out).1 _ _ hz];exact c1
         by_cases hlt3:k<n
         ·cases b with
          | true =>
           have HBK2:Hid (true=true↔∃ i',i'<k+1∧occ (ax xs i').vs v=true):=hid ⟨fun _=>by obtain ⟨i',h1,h2⟩:=HBK.out.1 rfl;exact ⟨i',by omega,h2⟩,fun _=>rfl⟩
           go_wp2_with fail
           go_roundw
           case rel=>exact ⟨true,k+1,rfl,by go_num,by omega,HBK2,HB3⟩
           case measure=>simp [intOf];omega
          | false =>
           have hAr:=beAtoms HI.out.2.1 HB3.out (by omega)
           obtain ⟨b,off,rfl⟩:=atomsSome hAr (by omega)
           obtain ⟨_,_,hsz,ra,rn,rc,y0,y1,hr,_⟩:=atomsAt hAr hlt3
           have HR:=hid hr;clear hr hAr
           obtain ⟨nm,hnm⟩:∃ nm,nm=(ax xs k).nm:=⟨_,rfl⟩
           rw [← hnm] at y0 hsz
           have HNM:=hid hnm;clear hnm
           obtain ⟨ob,hob⟩:∃ ob,occ (ax xs k).vs v=ob:=⟨_,rfl⟩
           have HBK2:Hid (ob=true↔∃ i',i'<k+1∧occ (ax xs i').vs v=true):=hid ⟨fun h=>⟨k,by omega,by rw [hob];exact h⟩,fun ⟨i',h1,h2⟩=>by
            by_cases e:i'=k
            ·subst e;rw [← hob];exact h2
            ·exact absurd (HBK.out.2 ⟨i',by omega,h2⟩) (by simp)⟩
           have HOB:=hid hob;clear hob
           go_wp2_with fail
           refine (specHasVar nm ra rn rc (ax xs k).vs (v:Int) _ HR.out (by omega)).mono ?_
           rintro e w5 ⟨rfl,hb5⟩
           rw [HOB.out]
           have HB5:=hid (Below.calm HB3.out hb5);clear hb5
           go_wp2_with fail
           go_roundw
           case rel=>exact ⟨ob,k+1,rfl,by go_num,by omega,HBK2,HB5⟩
           case measure=>simp [intOf];omega
         ·cases b with
          | true =>
           have HCV2:Hid (∀ u,u<v+1→∃ i,i<xs.length∧occ (ax xs i).vs u=true):=hid (fun u hu=>by
            by_cases e:u=v
            ·subst e;obtain ⟨i',h1,h2⟩:=HBK.out.1 rfl;exact ⟨i',by have:=HL.out.1;omega,h2⟩
            ·exact HCV.out u (by omega))
           go_wp2_with fail
           go_roundw
           case rel=>exact ⟨v+1,by go_num,by omega,HCV2,HB3⟩
           case measure=>simp [intOf];omega
          | false =>
           have HF:=hid (qOK_cov (us:=us) (show ¬ CovOK (m:Int) xs from fun g=>by obtain ⟨i,hi,ho⟩:=g v (by omega);exact absurd (HBK.out.2 ⟨i,by have:=HL.out.1;omega,ho⟩) (by simp)))
           go_wp2_with fail
           go_ret
           exact ⟨by rw [HF.out];rfl,HW.out.2.trans (HB3.out.mono (by omega))⟩
       ·have HCO:Hid (CovOK m xs):=hid (fun u hu=>HCV.out u (by omega))
        have HO:=hid (beInts HI.out.2.2 HB2.out (by omega))
        go_wp2_with fail
        go_loopw [8] (fun s w4=>∃ j:Nat,s=.int .i64 j∧j≤un∧Hid (SetTo us m j)∧Hid (∃ q,w4=wr.drewN q)) (fun s _=>un - (intOf s).toNat)
        case atStart=>exact ⟨0,rfl,by omega,hid (fun q hq=>by omega),hid ⟨0,rfl⟩⟩
        case round =>
         obtain ⟨j,rfl,hj,HST,HD⟩:=hrel
         have g0:wr.cell? ⟨w.heap.size,0,none⟩=some (.int .i64 m):=by obtain ⟨q,rfl⟩:=HD.out;exact e0
         have g2:wr.cell? ⟨w.heap.size,2,none⟩=some (.slice ua un uc):=by obtain ⟨q,rfl⟩:=HD.out;exact e2
         have hbx:∀ q,Below W.heap.size W (wr.drewN q):=by obtain ⟨q,rfl⟩:=HD.out;exact fun q'=>below_drewN (below_drewN HB2.out _) _
         have HBX:=hid hbx;clear hbx
         by_cases hltj:j<un
         ·have HOj:=hid (kpInts HO.out (keeps_dr _ _ HD.out))
          have HJ:=hid (HOj.out.take (j:=j) (by omega))
          obtain ⟨vb,vo,rfl,x0,hx6⟩:=intsAtB HOj.out hltj
          obtain ⟨x,hx⟩:∃ x,ix us j=x:=⟨_,rfl⟩
          rw [hx] at x0 hx6
          have HX:=hid hx;clear hx
          have hcI:=hid (fun w'=>specIn x 0 ((m:Int) - 1) w')
          by_cases h6:0≤x∧x≤(m:Int) - 1
          ·have HC:Hid (∀ w',Calls Tryd.prog 41 #[.int .i64 x,.int .i64 0,.int .i64 ((m:Int) - 1)] w' (Gives w' (.bool true))):=hid (fun w'=>by have:=hcI.out w';rwa [show decide (0≤x∧x≤(m:Int) - 1)=true by simpa using h6] at this)
           obtain ⟨f,hfe⟩:∃ f,findF (us.take j) x=f:=⟨_,rfl⟩
           have HCF:Hid (∀ w',IntsA fz lo hi w' (some ⟨vb,vo,none⟩) j uc (us.take j)→Calls Tryd.prog 43 #[.slice (some ⟨vb,vo,none⟩) j uc,.int .i64 x] w' (Gives w' (.int .i64 f))):=hid (fun w' h=>by have:=specFind _ j uc (us.take j) x w' h;rwa [hfe] at this)
           by_cases hf:0≤f
           ·have HF:=hid (qOK_set (nv:=(m:Int)) (xs:=xs) (us:=us) (fun g=>(g j (by rw [HL.out.2];exact hltj)).2 (by rw [HX.out,hfe];exact hf)))
            have H6:=hid h6;clear h6 hfe
            go_wp2_with fail
            go_quiet (first
             | (go_at_call 41;exact (Calls.quiet_of (HC.out _)))
             | (go_at_call 43;exact (Calls.quiet_of (HCF.out _ (HJ.out.drewN _)))))
            go_wp2_with fail
            go_ret
            exact ⟨by rw [HF.out];rfl,HW.out.2.trans ((HBX.out _).mono (by omega))⟩
           ·have HST2:=hid (HST.out.succ (by rw [HX.out,hfe];exact ⟨h6,hf⟩))
            have H6:=hid h6;clear h6 hfe
            go_wp2_with fail
            go_quiet (first
             | (go_at_call 41;exact (Calls.quiet_of (HC.out _)))
             | (go_at_call 43;exact (Calls.quiet_of (HCF.out _ (HJ.out.drewN _)))))
            go_wp2_with fail
            go_roundw
            case rel=>exact ⟨j+1,by go_num,by omega,HST2,hid (by first | exact HD.out | exact dr_more HD.out _ | (rw [dd];exact dr_more HD.out _) | (rw [dd,dd];exact dr_more HD.out _) | exact ⟨_,rfl⟩ | exact ⟨_,dd⟩)⟩
            case measure=>simp [intOf];omega
          ·have HC:Hid (∀ w',Calls Tryd.prog 41 #[.int .i64 x,.int .i64 0,.int .i64 ((m:Int) - 1)] w' (Gives w' (.bool false))):=hid (fun w'=>by have:=hcI.out w';rwa [show decide (0≤x∧x≤(m:Int) - 1)=false by simpa using h6] at this)
           have HF:=hid (qOK_set (nv:=(m:Int)) (xs:=xs) (us:=us) (fun g=>h6 (by have:=(g j (by rw [HL.out.2];exact hltj)).1;rwa [HX.out] at this)))
           have H6:=hid h6;clear h6
           go_wp2_with fail
           go_quiet ((go_at_call 41;exact (Calls.quiet_of (HC.out _))))
           go_wp2_with fail
           go_ret
           exact ⟨by rw [HF.out];rfl,HW.out.2.trans ((HBX.out _).mono (by omega))⟩
         ·have HF:=hid (qOK_yes HHD.out (show SetTo us (m:Int) us.length by have:=HST.out;rwa [show j=us.length by have:=HL.out.2;omega] at this) HAE.out HCO.out)
          go_wp2_with fail
          go_ret
          exact ⟨by rw [HF.out];rfl,HW.out.2.trans ((HBX.out 0).mono (by omega))⟩
   ·have HF:=hid (qOK_long (nv:=(m:Int)) (xs:=xs) (us:=us) (by omega) (by have:=HL.out.2;omega))
    have H12:=hid (And.intro h1 h2);clear h1 h2
    go_enter Tryd.func17,Tryd.ntmps17
    go_upto_region 1 with fail
    rw [← HW.out.1]
    go_wp2_with fail
    refine (specIn (m:Int) 1 5 _).mono ?_
    rintro e w1 ⟨rfl,m1,rfl⟩
    rw [hd1]
    go_wp2_with fail
    refine (specIn (n:Int) 1 4 _).mono ?_
    rintro e w2 ⟨rfl,m2,rfl⟩
    rw [hd2]
    go_wp2_with fail
    go_ret
    first | exact ⟨by rw [HF.out];rfl,below_drewN HW.out.2 _⟩ | exact ⟨by rw [HF.out];rfl,below_drewN (below_drewN HW.out.2 _) _⟩
  ·have hd2:decide ((1:Int)≤n∧(n:Int)≤4)=false:=by simpa using h2
   have HF:=hid (qOK_head (nv:=(m:Int)) (xs:=xs) (us:=us) (fun g=>h2 (by have:=g.2;have:=HL.out.1;omega)))
   have H12:=hid (And.intro h1 h2);clear h1 h2
   go_enter Tryd.func17,Tryd.ntmps17
   go_upto_region 1 with fail
   rw [← HW.out.1]
   go_wp2_with fail
   refine (specIn (m:Int) 1 5 _).mono ?_
   rintro e w1 ⟨rfl,m1,rfl⟩
   rw [hd1]
   go_wp2_with fail
   refine (specIn (n:Int) 1 4 _).mono ?_
   rintro e w2 ⟨rfl,m2,rfl⟩
   rw [hd2]
   go_wp2_with fail
   go_ret
   first | exact ⟨by rw [HF.out];rfl,below_drewN HW.out.2 _⟩ | exact ⟨by rw [HF.out];rfl,below_drewN (below_drewN HW.out.2 _) _⟩
 ·have hd1:decide (1≤nv∧nv≤5)=false:=by simpa using h1
  have HF:=hid (qOK_head (xs:=xs) (us:=us) (fun g=>h1 g.1))
  go_enter Tryd.func17,Tryd.ntmps17
  go_upto_region 1 with fail
  rw [← HW.out.1]
  go_wp2_with fail
  refine (specIn nv 1 5 _).mono ?_
  rintro e w1 ⟨rfl,m1,rfl⟩
  rw [hd1]
  go_wp2_with fail
  go_ret
  exact ⟨by rw [HF.out];rfl,below_drewN HW.out.2 _⟩
end Go.Proofs.YtkohkoiegmcghaaDoor
namespace Go.Proofs.YtkohkoiegmcghaaDoor
set_option linter.unusedSimpArgs false
set_option linter.unusedVariables false
open Go.RowKit
noncomputable def awTo (xs:List AtomD) (v:Int) (k:Nat):List Int:=((List.range k).filter fun i=>occ (ax xs i).vs v).map fun (i:Nat)=>(i:Int)
noncomputable def awF (nv:Int) (xs:List AtomD) (us:List Int) (v:Int):List Int:=if qOK nv xs us=true then awTo xs v xs.length else []
noncomputable def degF (nv:Int) (xs:List AtomD) (us:List Int) (v:Int):Nat:=(awF nv xs us v).length
end Go.Proofs.YtkohkoiegmcghaaDoor
