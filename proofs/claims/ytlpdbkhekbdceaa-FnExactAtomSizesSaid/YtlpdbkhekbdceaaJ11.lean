/- Lemmas for the proof of FnExactAtomSizes, part 12 of 19: no condition of their own. -/
import Derived.Test.YtlpdbkhekbdceaaJ2
import Derived.Test.YtlpdbkhekbdceaaJ10
import Derived.Deep.DeepCutAuto
import Derived.Deep.CutBlock
import Derived.Test.YtlpdbkhekbdceaaJ3
import Derived.Test.YtlpdbkhekbdceaaJ8
import Derived.Test.YtlpdbkhekbdceaaJ9
namespace Go.Proofs.Ytlpdbkhekbdceaa
set_option linter.unusedSimpArgs false
set_option linter.unusedVariables false
open Go.RowKit
section
variable {lo hi B lo':Nat} {w w':World} {ar:Int} {a:Option Addr} {n c:Nat} {rows:List (List Int)}
end
set_option maxHeartbeats 800000 in
theorem toRel {lo hi:Nat} (ar:Int) (a:Option Addr) (n c:Nat) (rows:List (List Int)) (w:World) (hI:RowsA false lo hi w a n c rows) (hh:hi≤w.heap.size) (har:I64 ar) (hn:n≤1048576) (hr:∀ i,(rx rows i).length≤1048576) :
 Calls Try.prog 61 #[trieV ar a n c] w (GivesTrie w ar rows):=by
 have HAR:=hid har;clear har
 have HR:=hid hr;clear hr
 go_enter Try.func61,Try.ntmps61
 go_wp2_with fail
 refine (toRows a n c rows _ (hI.be intsOK (B:=w.heap.size) belA hh) leA hn HR.out).mono ?_
 rintro e w1 ⟨a1,n1,c1,rfl,ho1,hb1⟩
 have hz:=hb1.size
 simp at hz
 have hb2:Below w.heap.size w w1:=Below.trans belA (hb1.mono leA)
 have q0:w1.cell? ⟨w.heap.size+1,0,none⟩=some (.int .i64 0):=(by rw [(bcell hb1).1 _ _ (by first | omega | (simp;done) | (simp;omega))];first | with_reducible assumption | (go_simp;done) | assumption | (simp [World.cell?];done))
 have q1:w1.cell? ⟨w.heap.size+1,1,none⟩=some (.slice none 0 0):=(by rw [(bcell hb1).1 _ _ (by first | omega | (simp;done) | (simp;omega))];first | with_reducible assumption | (go_simp;done) | assumption | (simp [World.cell?];done))
 have q2:w1.frozen? ⟨w.heap.size+1,0,none⟩=false:=(by rw [(bcell hb1).2 _ _ (by first | omega | (simp;done) | (simp;omega))];first | with_reducible assumption | (go_simp;done) | assumption | (simp [World.frozen?];done))
 have q3:w1.frozen? ⟨w.heap.size+1,1,none⟩=false:=(by rw [(bcell hb1).2 _ _ (by first | omega | (simp;done) | (simp;omega))];first | with_reducible assumption | (go_simp;done) | assumption | (simp [World.frozen?];done))
 have r0:w1.cell? ⟨w.heap.size+1+1,0,none⟩=some (.int .i64 ar):=(by rw [(bcell hb1).1 _ _ (by first | omega | (simp;done) | (simp;omega))];first | with_reducible assumption | (go_simp;done) | assumption | (simp [World.cell?];done))
 have r1:w1.cell? ⟨w.heap.size+1+1,1,none⟩=some (.slice none 0 0):=(by rw [(bcell hb1).1 _ _ (by first | omega | (simp;done) | (simp;omega))];first | with_reducible assumption | (go_simp;done) | assumption | (simp [World.cell?];done))
 have r2:w1.frozen? ⟨w.heap.size+1+1,0,none⟩=false:=(by rw [(bcell hb1).2 _ _ (by first | omega | (simp;done) | (simp;omega))];first | with_reducible assumption | (go_simp;done) | assumption | (simp [World.frozen?];done))
 have r3:w1.frozen? ⟨w.heap.size+1+1,1,none⟩=false:=(by rw [(bcell hb1).2 _ _ (by first | omega | (simp;done) | (simp;omega))];first | with_reducible assumption | (go_simp;done) | assumption | (simp [World.frozen?];done))
 have HO:=hid ho1;clear ho1
 have HB:=hid (And.intro hb1 hb2);clear hb1 hb2
 go_wp2_with fail
 refine bodyPost_ret (v:=trieV ar a1 n1 c1) ?_ rfl ⟨_,_,_,rfl,?_,?_⟩
 ·simp [results,Try.results61,go_sem,q0,q1]
 ·have h1:=HO.out
  exact (SlA.keep intsOK h1 (by repeat (first | assumption | exact Keeps.refl _ _ _ | exact HB.out.1 | refine Keeps.dr ?_ _ | refine Keeps.sc ?_ (by first | omega | (simp;done) | (simp;omega)) _ | refine Keeps.al ?_ (by first | with_reducible exact Nat.le_refl _ | omega | (simp;done) | (simp;omega) | exact Nat.le_refl _) _))).wide intsOK leA leA
 ·have hb2:=HB.out.2
  exact belA
set_option maxHeartbeats 400000 in
theorem szRel {fz:Bool} {lo hi:Nat} (ar:Int) (a:Option Addr) (n c:Nat) (rows:List (List Int)) (left:Int) (w:World) (hI:RowsA fz lo hi w a n c rows) (hh:hi≤w.heap.size) (h0:0≤left) (h1:left≤1048576) :
 Calls Try.prog 53 #[trieV ar a n c,.int .i64 left] w (Leaves w (.int .i64 (szI (rowsSz rows) left))):=by
 by_cases hle:(rowsSz rows:Int)≤left
 ·have hsz:=szI_yes hle
  obtain ⟨t,ht⟩:∃ t,t=left - rowsSz rows:=⟨_,rfl⟩
  have ht0:0≤t:=by omega
  rw [← ht] at hsz
  have HS:=hid hsz;clear hsz
  have HT:=hid (And.intro ht hle);clear ht hle
  go_enter Try.func53,Try.ntmps53
  go_wp2_with fail
  refine (szRowsG a n c rows left _ (hI.al intsOK hh _) h0 h1).mono ?_
  rintro e w1 ⟨rfl,m1,rfl⟩
  rw [HS.out]
  go_wp2_with fail
  go_ret
  exact ⟨by rw [HS.out];rfl,belA⟩
 ·have hsz:=szI_no hle
  have HS:=hid hsz;clear hsz
  have HT:=hid hle;clear hle
  go_enter Try.func53,Try.ntmps53
  go_wp2_with fail
  refine (szRowsG a n c rows left _ (hI.al intsOK hh _) h0 h1).mono ?_
  rintro e w1 ⟨rfl,m1,rfl⟩
  rw [HS.out]
  go_wp2_with fail
  go_ret
  exact ⟨by rw [HS.out];rfl,belA⟩
set_option maxHeartbeats 800000 in
theorem eqRel {fz fz':Bool} {lo hi lo' hi':Nat} (ar ar':Int) (a a':Option Addr) (n c n' c':Nat) (rows rows':List (List Int)) (w:World) (hI:RowsA fz lo hi w a n c rows) (hh:hi≤w.heap.size) (hJ:RowsA fz' lo' hi' w a' n' c' rows') (hh':hi'≤w.heap.size) :
 Calls Try.prog 70 #[trieV ar a n c,trieV ar' a' n' c'] w (Leaves w (.bool (eqT ar ar' rows rows'))):=by
 by_cases he:ar=ar'
 ·have hb:(ar != ar')=false:=by simp [he]
  have hE:eqT ar ar' rows rows'=eqLL rows rows':=by unfold eqT eqLL;simp [he]
  rw [hE]
  have HE:=hid (And.intro he hE);clear he hE
  obtain ⟨q,hq⟩:∃ q,q=eqLL rows rows':=⟨_,rfl⟩
  rw [← hq]
  have HQ:=hid hq;clear hq
  cases q
  all_goals
   go_enter Try.func70,Try.ntmps70
   go_wp2_with fail
   refine (eqRows a a' n c n' c' rows rows' _ (hI.be intsOK (B:=w.heap.size) belA hh) (hJ.be intsOK (B:=w.heap.size) belA hh')).mono ?_
   rintro e w1 ⟨rfl,m1,rfl⟩
   rw [← HQ.out]
   go_wp2_with fail
   go_ret
   exact ⟨rfl,belA⟩
 ·have hb:(ar != ar')=true:=by simp [he]
  have hE:eqT ar ar' rows rows'=false:=by unfold eqT;simp [he]
  rw [hE]
  have HE:=hid (And.intro he hE);clear he hE
  go_enter Try.func70,Try.ntmps70
  go_wp2_with fail
  go_ret
  exact ⟨rfl,belA⟩
theorem toK_Rel {lo hi:Nat} (ar:Int) (a:Option Addr) (n c:Nat) (rows:List (List Int)) (w:World) (hI:TrieA false lo hi w ar a n c rows) (hh:hi≤w.heap.size) (hs:rowsSz rows≤1048576) :
 Calls Try.prog 61 #[trieV ar a n c] w (GvTrie w ar rows):=(toRel ar a n c rows w hI.2 hh hI.1 (by have:=hI.2.len;unfold rowsSz at hs;omega) (rowsSz_row hs)).mono fun _ _ ⟨a',n',c',h1,h2,h3⟩=>⟨a',n',c',h1,⟨hI.1,h2⟩,h3⟩
theorem szK_Rel {fz:Bool} {lo hi:Nat} (ar:Int) (a:Option Addr) (n c:Nat) (rows:List (List Int)) (left:Int) (w:World) (hI:TrieA fz lo hi w ar a n c rows) (hh:hi≤w.heap.size) (h0:0≤left) (h1:left≤1048576) :
 Calls Try.prog 53 #[trieV ar a n c,.int .i64 left] w (Leaves w (.int .i64 (szI (rowsSz rows) left))):=szRel ar a n c rows left w hI.2 hh h0 h1
theorem eqK_Rel {fz fz':Bool} {lo hi lo' hi':Nat} (ar:Int) (a a':Option Addr) (n c n' c':Nat) (rows:List (List Int)) (w:World) (hI:TrieA fz lo hi w ar a n c rows) (hh:hi≤w.heap.size) (hJ:TrieA fz' lo' hi' w ar a' n' c' rows) (hh':hi'≤w.heap.size) :
 Calls Try.prog 70 #[trieV ar a n c,trieV ar a' n' c'] w (Leaves w (.bool true)):=by have:=eqRel ar ar a a' n c n' c' rows rows w hI.2 hh hJ.2 hh';rwa [eqT_refl] at this
end Go.Proofs.Ytlpdbkhekbdceaa
namespace Go.Proofs.Ytlpdbkhekbdceaa
set_option linter.unusedSimpArgs false
set_option linter.unusedVariables false
open Go.RowKit
structure TableD where
 nm:ByteArray
 ar:Int
 rows:List (List Int)
def tableR:Rep TableD:=fun fz lo hi w cs x=>∃ a n c,cs=[.string x.nm,.int .i64 x.ar,.slice a n c]∧x.nm.size≤9223372036854775807∧TrieA fz lo hi w x.ar a n c x.rows
theorem tableOK:RepOK tableR :=
 ⟨fun ⟨a,n,c,h1,h2,h3⟩ hk=>⟨a,n,c,h1,h2,kpTrie h3 hk⟩,fun ⟨a,n,c,h1,h2,h3⟩ g1 g2=>⟨a,n,c,h1,h2,hgTrie (wdTrie h3 g1) g2⟩,fun ⟨a,n,c,h1,h2,h3⟩=>⟨a,n,c,h1,h2,rdTrie h3⟩⟩
abbrev TablesA:=SlA 3 tableR
def tbx (xs:List TableD) (i:Nat):TableD:=xs.getD i ⟨⟨#[]⟩,0,[]⟩
theorem tbx_lt {xs:List TableD} {i:Nat} (h:i<xs.length):tbx xs i=xs[i]:=by simp [tbx,h]
theorem tablesSome {fz:Bool} {lo hi:Nat} {w:World} {a:Option Addr} {n c:Nat} {xs:List TableD} (h:TablesA fz lo hi w a n c xs) (hn:0<n):∃ b off,a=some ⟨b,off,none⟩:=by
 obtain ⟨b,off,ha,_⟩:=h.open hn
 exact ⟨b,off,ha⟩
theorem tablesAt {fz:Bool} {lo hi:Nat} {w:World} {b off n c:Nat} {xs:List TableD} (h:TablesA fz lo hi w (some ⟨b,off,none⟩) n c xs) {i:Nat} (hi':i<n) :
 lo≤b∧b<hi∧(tbx xs i).nm.size≤9223372036854775807∧∃ ra rn rc,w.cell? ⟨b,off+i*3,none⟩=some (.string (tbx xs i).nm)∧w.cell? ⟨b,off+i*3+1,none⟩=some (.int .i64 (tbx xs i).ar)∧w.cell? ⟨b,off+i*3+2,none⟩=some (.slice ra rn rc)∧TrieA fz lo hi w (tbx xs i).ar ra rn rc (tbx xs i).rows ∧
  (fz=true→w.frozen? ⟨b,off+i*3,none⟩=false∧w.frozen? ⟨b,off+i*3+1,none⟩=false∧w.frozen? ⟨b,off+i*3+2,none⟩=false):=by
 obtain ⟨b',off',ha,hl,hb,hc⟩:=h.open (by omega)
 simp only [Option.some.injEq,Addr.mk.injEq,and_true] at ha
 obtain ⟨rfl,rfl⟩:=ha
 obtain ⟨cs,x,g1,g2,⟨ra,rn,rc,rfl,g3,g5⟩,g4⟩:=hc i hi'
 have k0:=g4 0 (by omega)
 have k1:=g4 1 (by omega)
 have k2:=g4 2 (by omega)
 have hx:tbx xs i=x:=by simp [tbx,g2]
 rw [hx]
 exact ⟨hl,hb,g3,ra,rn,rc,by simpa using k0.1,by simpa using k1.1,by simpa using k2.1,g5,fun hf=>⟨by simpa using k0.2 hf,by simpa using k1.2 hf,by simpa using k2.2 hf⟩⟩
def tabLens (xs:List TableD):Nat→Nat
 | 0=>0
 | k+1=>tabLens xs k+((tbx xs k).nm.size+rowsSz (tbx xs k).rows)
def tabsSz (xs:List TableD):Nat:=xs.length+tabLens xs xs.length
theorem tabLens_mono {xs:List TableD} {i k:Nat} (h:i≤k):tabLens xs i≤tabLens xs k:=by
 induction k with
 | zero =>obtain rfl:i=0:=by omega
          exact Nat.le_refl _
 | succ k ih =>
  by_cases e:i=k+1
  ·subst e;exact Nat.le_refl _
  ·have:=ih (by omega);simp only [tabLens];omega
theorem tabsSz_at {xs:List TableD} {B i:Nat} (h:tabsSz xs≤B) (hi:i<xs.length):(tbx xs i).nm.size+rowsSz (tbx xs i).rows≤B:=by
 have:=tabLens_mono (xs:=xs) (i:=i+1) (k:=xs.length) (by omega)
 unfold tabsSz at h;simp only [tabLens] at this;omega
abbrev tableV (s:ByteArray) (ar:Int) (a:Option Addr) (n c:Nat):Value:=.agg #[.string s,.int .i64 ar,.slice a n c]
set_option maxHeartbeats 800000 in
theorem szTable1 {fz:Bool} {lo hi:Nat} (s:ByteArray) (ar:Int) (a:Option Addr) (n c:Nat) (rows:List (List Int)) (left:Int) (w:World) (hI:TrieA fz lo hi w ar a n c rows) (hh:hi≤w.heap.size) (hs:s.size≤9223372036854775807) (h0:0≤left) (h1:left≤1048576) :
 Calls Try.prog 31 #[tableV s ar a n c,.int .i64 left] w (Leaves w (.int .i64 (szI (s.size+rowsSz rows) left))):=by
 by_cases hle:(s.size:Int)≤left
 ·obtain ⟨t,ht⟩:∃ t,t=left - s.size:=⟨_,rfl⟩
  have ht0:0≤t:=by omega
  have ht1:t≤1048576:=by omega
  by_cases hle2:(rowsSz rows:Int)≤t
  ·obtain ⟨u,hu⟩:∃ u,u=t - rowsSz rows:=⟨_,rfl⟩
   have hu0:0≤u:=by omega
   have HS:=hid (szI_yes hle2)
   have HE:Hid (szI (s.size+rowsSz rows) left=u):=hid (by rw [szI_yes (by omega)];omega)
   have HU:=hid (And.intro hle2 (And.intro hu ht));clear hle2 hu
   go_enter Try.func31,Try.ntmps31
   go_wp2_with fail
   rw [← ht]
   refine (szK_Rel ar a n c rows t _ (beTrie (B:=w.heap.size) hI belA hh) leA ht0 ht1).mono ?_
   rintro e w1 ⟨rfl,m1⟩
   have HB:=hid (show Below w.heap.size w w1 from Below.trans belA (m1.mono leA));clear m1
   rw [HS.out,← HU.out.2.1]
   clear ht
   go_wp2_with fail
   go_ret
   exact ⟨by rw [HE.out];rfl,HB.out⟩
  ·have HS:=hid (szI_no hle2)
   have HE:Hid (szI (s.size+rowsSz rows) left = -1):=hid (by rw [szI_no (by omega)])
   have HU:=hid hle2;clear hle2
   go_enter Try.func31,Try.ntmps31
   go_wp2_with fail
   rw [← ht]
   refine (szK_Rel ar a n c rows t _ (beTrie (B:=w.heap.size) hI belA hh) leA ht0 ht1).mono ?_
   rintro e w1 ⟨rfl,m1⟩
   have HB:=hid (show Below w.heap.size w w1 from Below.trans belA (m1.mono leA));clear m1
   rw [HS.out]
   clear ht
   go_wp2_with fail
   go_ret
   exact ⟨by rw [HE.out];rfl,HB.out⟩
 ·have HE:Hid (szI (s.size+rowsSz rows) left = -1):=hid (by rw [szI_no (by omega)])
  go_enter Try.func31,Try.ntmps31
  go_wp2_with fail
  go_ret
  exact ⟨by rw [HE.out];rfl,belA⟩
set_option maxHeartbeats 800000 in
theorem eqTable1 {fz fz':Bool} {lo hi lo' hi':Nat} (s:ByteArray) (ar:Int) (a a':Option Addr) (n c n' c':Nat) (rows:List (List Int)) (w:World) (hI:TrieA fz lo hi w ar a n c rows) (hh:hi≤w.heap.size) (hJ:TrieA fz' lo' hi' w ar a' n' c' rows) (hh':hi'≤w.heap.size) :
 Calls Try.prog 49 #[tableV s ar a n c,tableV s ar a' n' c'] w (Leaves w (.bool true)):=by
 go_enter Try.func49,Try.ntmps49
 go_wp2_with fail
 refine (eqK_Rel ar a a' n c n' c' rows _ (beTrie (B:=w.heap.size) hI belA hh) leA (beTrie (B:=w.heap.size) hJ belA hh') leA).mono ?_
 rintro e w1 ⟨rfl,m1⟩
 have HB:=hid (show Below w.heap.size w w1 from Below.trans belA (m1.mono leA));clear m1
 go_wp2_with fail
 go_ret
 exact ⟨rfl,HB.out⟩
def GvTable (w:World) (s:ByteArray) (ar:Int) (rows:List (List Int)) (e:Ending) (w':World):Prop:=∃ a n c,e=.returned (tableV s ar a n c)∧TrieA true w.heap.size w'.heap.size w' ar a n c rows∧Below w.heap.size w w'
set_option maxHeartbeats 1600000 in
theorem toTable1 {lo hi:Nat} (s:ByteArray) (ar:Int) (a:Option Addr) (n c:Nat) (rows:List (List Int)) (w:World) (hI:TrieA false lo hi w ar a n c rows) (hh:hi≤w.heap.size) (hn:rowsSz rows≤1048576) :
 Calls Try.prog 39 #[tableV s ar a n c] w (GvTable w s ar rows):=by
 go_enter Try.func39,Try.ntmps39
 go_wp2_with fail
 refine (toK_Rel ar a n c rows _ (beTrie (B:=w.heap.size) hI belA hh) leA hn).mono ?_
 rintro e w1 ⟨a1,n1,c1,rfl,ho1,hb1⟩
 have hz:=hb1.size
 simp at hz
 have hb2:Below w.heap.size w w1:=Below.trans belA (hb1.mono leA)
 have q0:w1.cell? ⟨w.heap.size+1,0,none⟩=some (.string ⟨#[]⟩):=(by rw [(bcell hb1).1 _ _ (by first | omega | (simp;done) | (simp;omega))];first | with_reducible assumption | (go_simp;done) | assumption | (simp [World.cell?];done))
 have q1:w1.cell? ⟨w.heap.size+1,1,none⟩=some (.int .i64 0):=(by rw [(bcell hb1).1 _ _ (by first | omega | (simp;done) | (simp;omega))];first | with_reducible assumption | (go_simp;done) | assumption | (simp [World.cell?];done))
 have q2:w1.cell? ⟨w.heap.size+1,2,none⟩=some (.slice none 0 0):=(by rw [(bcell hb1).1 _ _ (by first | omega | (simp;done) | (simp;omega))];first | with_reducible assumption | (go_simp;done) | assumption | (simp [World.cell?];done))
 have q3:w1.frozen? ⟨w.heap.size+1,0,none⟩=false:=(by rw [(bcell hb1).2 _ _ (by first | omega | (simp;done) | (simp;omega))];first | with_reducible assumption | (go_simp;done) | assumption | (simp [World.frozen?];done))
 have q4:w1.frozen? ⟨w.heap.size+1,1,none⟩=false:=(by rw [(bcell hb1).2 _ _ (by first | omega | (simp;done) | (simp;omega))];first | with_reducible assumption | (go_simp;done) | assumption | (simp [World.frozen?];done))
 have q5:w1.frozen? ⟨w.heap.size+1,2,none⟩=false:=(by rw [(bcell hb1).2 _ _ (by first | omega | (simp;done) | (simp;omega))];first | with_reducible assumption | (go_simp;done) | assumption | (simp [World.frozen?];done))
 have r0:w1.cell? ⟨w.heap.size+1+1,0,none⟩=some (.string s):=(by rw [(bcell hb1).1 _ _ (by first | omega | (simp;done) | (simp;omega))];first | with_reducible assumption | (go_simp;done) | assumption | (simp [World.cell?];done))
 have r1:w1.cell? ⟨w.heap.size+1+1,1,none⟩=some (.int .i64 0):=(by rw [(bcell hb1).1 _ _ (by first | omega | (simp;done) | (simp;omega))];first | with_reducible assumption | (go_simp;done) | assumption | (simp [World.cell?];done))
 have r2:w1.cell? ⟨w.heap.size+1+1,2,none⟩=some (.slice none 0 0):=(by rw [(bcell hb1).1 _ _ (by first | omega | (simp;done) | (simp;omega))];first | with_reducible assumption | (go_simp;done) | assumption | (simp [World.cell?];done))
 have r3:w1.frozen? ⟨w.heap.size+1+1,0,none⟩=false:=(by rw [(bcell hb1).2 _ _ (by first | omega | (simp;done) | (simp;omega))];first | with_reducible assumption | (go_simp;done) | assumption | (simp [World.frozen?];done))
 have r4:w1.frozen? ⟨w.heap.size+1+1,1,none⟩=false:=(by rw [(bcell hb1).2 _ _ (by first | omega | (simp;done) | (simp;omega))];first | with_reducible assumption | (go_simp;done) | assumption | (simp [World.frozen?];done))
 have r5:w1.frozen? ⟨w.heap.size+1+1,2,none⟩=false:=(by rw [(bcell hb1).2 _ _ (by first | omega | (simp;done) | (simp;omega))];first | with_reducible assumption | (go_simp;done) | assumption | (simp [World.frozen?];done))
 have HO:=hid ho1;clear ho1
 have HB:=hid (And.intro hb1 hb2);clear hb1 hb2
 go_wp2_with fail
 refine bodyPost_ret (v:=tableV s ar a1 n1 c1) ?_ rfl ⟨_,_,_,rfl,?_,?_⟩
 ·simp [results,Try.results39,go_sem,q0,q1,q2]
 ·have h1:TrieA true (w.heap.size+1+1+1) w1.heap.size w1 ar a1 n1 c1 rows:=by simpa using HO.out
  exact hgTrie (wdTrie (kpTrie h1 (Keeps.sc (Keeps.sc (Keeps.sc (Keeps.sc (Keeps.sc (Keeps.refl _ _ _) (.inl (by omega)) _) (.inl (by omega)) _) (.inl (by omega)) _) (.inl (by omega)) _) (.inl (by omega)) _)) (by omega)) (by simp only [szSet];omega)
 ·have hb2:=HB.out.2
  exact Below.trans hb2 (Below.setCell (Below.setCell (Below.setCell (Below.setCell (Below.setCell (Below.refl _ _) (by dsimp only;omega) _) (by dsimp only;omega) _) (by dsimp only;omega) _) (by dsimp only;omega) _) (by dsimp only;omega) _)
theorem TablesA.be {fz:Bool} {lo hi B:Nat} {w w':World} {a:Option Addr} {n c:Nat} {xs:List TableD} (h:TablesA fz lo hi w a n c xs) (hb:Below B w w') (hh:hi≤B):TablesA fz lo hi w' a n c xs:=SlA.be tableOK h hb hh
set_option maxHeartbeats 1600000 in
theorem szTables {fz:Bool} {lo hi:Nat} (a:Option Addr) (n c:Nat) (xs:List TableD) (left:Int) (w:World) (hI:TablesA fz lo hi w a n c xs) (hh:hi≤w.heap.size) (h0:0≤left) (h1:left≤1048576) :
 Calls Try.prog 17 #[.slice a n c,.int .i64 left] w (Leaves w (.int .i64 (szI (tabsSz xs) left))):=by
 have hl:=hI.len
 have hs:=hI.small
 have HL:=hid hl;clear hl
 by_cases hle:(n:Int)≤left
 ·go_enter Try.func17,Try.ntmps17
  go_wp2_with fail
  go_loopw [1,5] (fun l i wr=>∃ (k:Nat) (t:Int),i=.int .i64 k∧l=.int .i64 t∧k≤n∧Hid (t=left - n - tabLens xs k)∧0≤t∧t≤1048576∧Hid (Below w.heap.size w wr)) (fun _ i _=>n - (intOf i).toNat)
  case atStart=>exact ⟨0,_,rfl,rfl,by omega,hid (by simp [tabLens]),by omega,by omega,hid (Below.refl _ _)⟩
  case round =>
   obtain ⟨k,t,rfl,rfl,hk2,HA,ht0,ht1,HB⟩:=hrel
   by_cases hlt:k<n
   ·have hIr:=hI.be HB.out hh
    have hzr:=HB.out.size
    obtain ⟨b,off,rfl⟩:=tablesSome hIr (by omega)
    obtain ⟨_,_,hsz,ra,rn,rc,d0,d1,d2,hr,_⟩:=tablesAt hIr hlt
    have HI:=hid (And.intro hI hIr);clear hI hIr
    generalize hnm:(tbx xs k).nm=nm at *
    generalize har:(tbx xs k).ar=ar at *
    generalize hvs:(tbx xs k).rows=vs at *
    by_cases hle2:((nm.size+rowsSz vs:Nat):Int)≤t
    ·obtain ⟨u,hu⟩:∃ u,u=t - (nm.size+rowsSz vs:Nat):=⟨_,rfl⟩
     have hu0:0≤u:=by omega
     have hu1:u≤1048576:=by omega
     have HS:Hid (szI (nm.size+rowsSz vs) t=u):=hid (by rw [szI_yes hle2,hu])
     have HU:Hid (u=left - n - tabLens xs (k+1)):=hid (by have g:=HA.out;simp only [tabLens];rw [hnm,hvs,hu];omega)
     have HN:=hid (And.intro hnm (And.intro hvs (And.intro hle2 hu)));clear hnm hvs hle2 hu har
     go_wp2_with fail
     refine (szTable1 nm ar ra rn rc vs t _ hr (by omega) hsz ht0 ht1).mono ?_
     rintro e w3 ⟨rfl,hb3⟩
     rw [HS.out]
     have HB3:=hid (Below.calm HB.out hb3);clear hb3
     go_wp2_with fail
     go_roundw
     case rel=>exact ⟨k+1,_,by go_num,rfl,by omega,HU,hu0,hu1,HB3⟩
     case measure=>simp [intOf];omega
    ·have HS:=hid (szI_no hle2)
     have HF:Hid (szI (tabsSz xs) left = -1):=hid (by
      have g:=HA.out
      have g2:=tabLens_mono (xs:=xs) (i:=k+1) (k:=xs.length) (by rw [HL.out];omega)
      simp only [tabLens] at g2;rw [hnm,hvs] at g2
      have g3:=HL.out
      rw [szI_no (by unfold tabsSz;omega)])
     have HN:=hid (And.intro hnm (And.intro hvs hle2));clear hnm hvs hle2 har
     go_wp2_with fail
     refine (szTable1 nm ar ra rn rc vs t _ hr (by omega) hsz ht0 ht1).mono ?_
     rintro e w3 ⟨rfl,hb3⟩
     rw [HS.out]
     have HB3:=hid (Below.calm HB.out hb3);clear hb3
     go_wp2_with fail
     go_ret
     exact ⟨by rw [HF.out];rfl,HB3.out⟩
   ·have HF:Hid (szI (tabsSz xs) left=t):=hid (by
     have g:=HA.out;have g3:=HL.out
     obtain rfl:k=n:=by omega
     rw [szI_yes (by unfold tabsSz;rw [g3];omega)];unfold tabsSz;rw [g3];omega)
    go_wp2_with fail
    go_ret
    exact ⟨by rw [HF.out];rfl,HB.out⟩
 ·have HF:Hid (szI (tabsSz xs) left = -1):=hid (by have g3:=HL.out;rw [szI_no (by unfold tabsSz;omega)])
  go_enter Try.func17,Try.ntmps17
  go_wp2_with fail
  go_ret
  exact ⟨by rw [HF.out];rfl,belA⟩
set_option maxHeartbeats 1600000 in
theorem eqTables {fz fz':Bool} {lo hi lo' hi':Nat} (a a':Option Addr) (n c n' c':Nat) (xs:List TableD) (w:World) (hI:TablesA fz lo hi w a n c xs) (hh:hi≤w.heap.size) (hJ:TablesA fz' lo' hi' w a' n' c' xs) (hh':hi'≤w.heap.size) :
 Calls Try.prog 27 #[.slice a n c,.slice a' n' c'] w (Leaves w (.bool true)):=by
 have hl:=hI.len
 have hl':=hJ.len
 have hs:=hI.small
 obtain rfl:n=n':=by omega
 clear hl hl'
 have hb:((n:Int) != (n:Int))=false:=by simp
 go_enter Try.func27,Try.ntmps27
 go_wp2_with fail
 go_loopw [5] (fun i wr=>∃ k:Nat,i=.int .i64 k∧k≤n∧Hid (Below w.heap.size w wr)) (fun i _=>n - (intOf i).toNat)
 case atStart=>exact ⟨0,rfl,by omega,hid (Below.refl _ _)⟩
 case round =>
  obtain ⟨k,rfl,hk,HB⟩:=hrel
  by_cases hlt:k<n
  ·have hzr:=HB.out.size
   have hIr:=hI.be HB.out hh
   have hJr:=hJ.be HB.out hh'
   obtain ⟨b,off,rfl⟩:=tablesSome hIr (by omega)
   obtain ⟨g1,g2,_,ra,rn,rc,d0,d1,d2,hr,_⟩:=tablesAt hIr hlt
   obtain ⟨b',off',rfl⟩:=tablesSome hJr (by omega)
   obtain ⟨g1',g2',_,ra',rn',rc',d0',d1',d2',hr',_⟩:=tablesAt hJr hlt
   have e0:∀ x:Later wr.heap.size wr,x.w.cell? ⟨b,off+k*3,none⟩=some (.string (tbx xs k).nm):=fun x=>x.cell d0 (by omega)
   have e1:∀ x:Later wr.heap.size wr,x.w.cell? ⟨b,off+k*3+1,none⟩=some (.int .i64 (tbx xs k).ar):=fun x=>x.cell d1 (by omega)
   have e2:∀ x:Later wr.heap.size wr,x.w.cell? ⟨b,off+k*3+2,none⟩=some (.slice ra rn rc):=fun x=>x.cell d2 (by omega)
   have e0':∀ x:Later wr.heap.size wr,x.w.cell? ⟨b',off'+k*3,none⟩=some (.string (tbx xs k).nm):=fun x=>x.cell d0' (by omega)
   have e1':∀ x:Later wr.heap.size wr,x.w.cell? ⟨b',off'+k*3+1,none⟩=some (.int .i64 (tbx xs k).ar):=fun x=>x.cell d1' (by omega)
   have e2':∀ x:Later wr.heap.size wr,x.w.cell? ⟨b',off'+k*3+2,none⟩=some (.slice ra' rn' rc'):=fun x=>x.cell d2' (by omega)
   have HC:=hid (fun x:Later wr.heap.size wr=>later_of x (Nat.le_refl _) (eqTable1 (tbx xs k).nm (tbx xs k).ar ra ra' rn rc rn' rc' (tbx xs k).rows x.w (beTrie hr x.be (by omega)) (by have:=x.size;omega) (beTrie hr' x.be (by omega)) (by have:=x.size;omega)))
   have HI:=hid (And.intro (And.intro hI hIr) (And.intro (And.intro hJ hJr) (And.intro (And.intro hr hr') (And.intro (And.intro d0 (And.intro d1 d2)) (And.intro d0' (And.intro d1' d2'))))));clear hI hIr hJ hJr hr hr' d0 d1 d2 d0' d1' d2'
   go_wp2_with fail
   refine wp_region_later (B:=wr.heap.size) (w0:=wr) (by kernel_rfl) (by kernel_rfl) (Below.refl _ _) ?_
   repeat (any_goals (first | go_big_quiet_step (((go_at_call 49;exact HC.out _))) | quiet_step (((go_at_call 49;exact HC.out _)))))
   refine wpQuiet_nil ?_
   intro _ hw'
   obtain ⟨nq,hw''⟩:=hw'
   subst hw''
   have HQ:=hid nq.be
   generalize nq.w=wq at *
   have HB2:=hid (Below.calm HB.out HQ.out)
   go_wp2_with fail
   go_roundw
   case rel=>exact ⟨k+1,by go_num,by omega,HB2⟩
   case measure=>simp [intOf];omega
  ·go_wp2_with fail
   go_ret
   exact ⟨rfl,HB.out⟩
theorem infoTable:(Try.prog.info? 77).map (fun i=>(i.zero,i.size,i.bytes))=some (some (.agg #[.string ⟨#[]⟩,.int .i64 0,.slice none 0 0]),3,48):=by kernel_rfl
def TabsTo (g:Nat) (w:World) (n:Nat) (xs:List TableD) (k:Nat):Prop :=
 ∃ vs,w.ownsRow g 77 3 (.slice (some ⟨g,0,none⟩) n n) n vs∧∀ i,i<k→∃ ra rn rc,vs[i*3]? = some (.string (tbx xs i).nm)∧vs[i*3+1]? = some (.int .i64 (tbx xs i).ar)∧vs[i*3+2]? = some (.slice ra rn rc)∧TrieA true (g+1) w.heap.size w (tbx xs i).ar ra rn rc (tbx xs i).rows
theorem TabsTo.put {g:Nat} {w w1:World} {n:Nat} {xs:List TableD} {k:Nat} (h:TabsTo g w n xs k) (hk:k<n) (hg:g<w.heap.size) (hb:Below w.heap.size w w1) {ra:Option Addr} {rn rc:Nat}
 (hr:TrieA true w.heap.size w1.heap.size w1 (tbx xs k).ar ra rn rc (tbx xs k).rows) :
 TabsTo g (((w1.setCell ⟨g,k*3,none⟩ (.string (tbx xs k).nm)).setCell ⟨g,k*3+1,none⟩ (.int .i64 (tbx xs k).ar)).setCell ⟨g,k*3+2,none⟩ (.slice ra rn rc)) n xs (k+1)∧Below g w (((w1.setCell ⟨g,k*3,none⟩ (.string (tbx xs k).nm)).setCell ⟨g,k*3+1,none⟩ (.int .i64 (tbx xs k).ar)).setCell ⟨g,k*3+2,none⟩ (.slice ra rn rc)) ∧
  (∃ v0,w1.cell? ⟨g,k*3,none⟩=some v0)∧(∃ v0,w1.cell? ⟨g,k*3+1,none⟩=some v0)∧(∃ v0,w1.cell? ⟨g,k*3+2,none⟩=some v0)∧w1.frozen? ⟨g,k*3,none⟩=false∧w1.frozen? ⟨g,k*3+1,none⟩=false∧w1.frozen? ⟨g,k*3+2,none⟩=false:=by
 obtain ⟨vs,ho,hv⟩:=h
 have hlen:vs.length=n*3:=ho.1
 have ho1:w1.ownsRow g 77 3 (.slice (some ⟨g,0,none⟩) n n) n vs:=ho.kept (row:=none) ⟨hb.os,hb.tape,hb.output,hb.size,fun k hk _=>hb.block k hk⟩ (.inr (by simp [Value.ownBlock]))
 obtain ⟨hs1,hs2⟩:=ho1.stored (k*3) (.string (tbx xs k).nm)
 obtain ⟨ht1,ht2⟩:=hs1.stored (k*3+1) (.int .i64 (tbx xs k).ar)
 obtain ⟨hu1,hu2⟩:=ht1.stored (k*3+2) (.slice ra rn rc)
 have hsz:(((w1.setCell ⟨g,k*3,none⟩ (.string (tbx xs k).nm)).setCell ⟨g,k*3+1,none⟩ (.int .i64 (tbx xs k).ar)).setCell ⟨g,k*3+2,none⟩ (.slice ra rn rc)).heap.size=w1.heap.size:=by rw [szSet,szSet,szSet]
 have hbs:=hb.size
 have hset:Keeps (g+1) w1.heap.size w1 (((w1.setCell ⟨g,k*3,none⟩ (.string (tbx xs k).nm)).setCell ⟨g,k*3+1,none⟩ (.int .i64 (tbx xs k).ar)).setCell ⟨g,k*3+2,none⟩ (.slice ra rn rc)):=Keeps.sc (Keeps.sc (Keeps.sc (Keeps.refl _ _ _) (.inl (by omega)) _) (.inl (by omega)) _) (.inl (by omega)) _
 refine ⟨⟨_,hu1,fun i hi=>?_⟩,?_,?_,?_,?_,ho1.frozenAt _,ho1.frozenAt _,ho1.frozenAt _⟩
 ·by_cases e:i=k
  ·subst e
   refine ⟨ra,rn,rc,?_,?_,?_,?_⟩
   ·rw [List.getElem?_set_ne (by omega),List.getElem?_set_ne (by omega),List.getElem?_set_self (by omega)]
   ·rw [List.getElem?_set_ne (by omega),List.getElem?_set_self (by rw [List.length_set];omega)]
   ·rw [List.getElem?_set_self (by rw [List.length_set,List.length_set];omega)]
   ·rw [hsz];exact kpTrie (wdTrie hr (by omega)) hset
  ·obtain ⟨ra',rn',rc',g1,g2,g3,g4⟩:=hv i (by omega)
   refine ⟨ra',rn',rc',?_,?_,?_,?_⟩
   ·rw [List.getElem?_set_ne (by omega),List.getElem?_set_ne (by omega),List.getElem?_set_ne (by omega)];exact g1
   ·rw [List.getElem?_set_ne (by omega),List.getElem?_set_ne (by omega),List.getElem?_set_ne (by omega)];exact g2
   ·rw [List.getElem?_set_ne (by omega),List.getElem?_set_ne (by omega),List.getElem?_set_ne (by omega)];exact g3
   ·rw [hsz];exact kpTrie (hgTrie (kpTrie g4 (Keeps.of_below hb (Nat.le_refl _))) hbs) hset
 ·exact Below.setCell (Below.setCell (Below.setCell (hb.mono (by omega)) (by dsimp only;omega) _) (by dsimp only;omega) _) (by dsimp only;omega) _
 ·have:=ho1.cells (g:=g) rfl (k*3) (vs[k*3]'(by omega)) (by simp)
  rw [Addr.add_lit] at this;exact ⟨_,by simpa using this⟩
 ·have:=ho1.cells (g:=g) rfl (k*3+1) (vs[k*3+1]'(by omega)) (by simp)
  rw [Addr.add_lit] at this;exact ⟨_,by simpa using this⟩
 ·have:=ho1.cells (g:=g) rfl (k*3+2) (vs[k*3+2]'(by omega)) (by simp)
  rw [Addr.add_lit] at this;exact ⟨_,by simpa using this⟩
def GvTables (w:World) (xs:List TableD) (e:Ending) (w':World):Prop :=
 ∃ a n c,e=.returned (.slice a n c)∧TablesA true w.heap.size w'.heap.size w' a n c xs∧Below w.heap.size w w'
set_option maxHeartbeats 1600000 in
theorem toTables {lo hi:Nat} (a:Option Addr) (n c:Nat) (xs:List TableD) (w:World) (hI:TablesA false lo hi w a n c xs) (hh:hi≤w.heap.size) (hs:tabsSz xs≤1048576) :
 Calls Try.prog 22 #[.slice a n c] w (GvTables w xs):=by
 have hl:=hI.len
 have hn:n≤1048576:=by unfold tabsSz at hs;omega
 have HL:=hid hl;clear hl
 have HS:=hid hs;clear hs
 obtain ⟨i0,hi0,hz0,hz1,hz2⟩:=info_parts infoTable
 go_enter Try.func22,Try.ntmps22
 go_wp2_with (at_make;refine wpList_make_full _ rfl _ _ 33 rfl w.heap.size 77 i0 (.agg #[.string ⟨#[]⟩,.int .i64 0,.slice none 0 0]) 3 Try.underlying33 hi0 hz0 hz1 _ _ _ _ n rfl rfl rfl rfl ?b1 ?b2 ?b3 ?_)
 case b1=>rw [hz2];omega
 case b2=>unfold maxLen;omega
 case b3=>exact Nat.le_refl _
 intro w1 hown hgrow
 have hb:Below w.heap.size w w1:=(Below.refl _ _).grown hgrow (Nat.le_refl _) (fun k h=>by cases h)
 obtain ⟨g,hg⟩:∃ g,g=w.heap.size:=⟨_,rfl⟩
 rw [← hg] at hown ⊢
 have hgw:g<w1.heap.size:=by
  have:=hown.lt g rfl;exact this.2
 have HG:=hid hg;clear hg
 have hT:TabsTo g w1 n xs 0:=⟨_,hown,fun i hi=>by omega⟩
 have HT:=hid hT;clear hT
 have HH:=hid (And.intro hown hgrow);clear hgrow hown
 go_wp2
 go_loopw [4] (fun i wr=>∃ k:Nat,i=.int .i64 k∧k≤n∧TabsTo g wr n xs k∧Below g w1 wr) (fun i _=>n - (intOf i).toNat)
 case atStart=>exact ⟨0,rfl,by omega,HT.out,Below.refl _ _⟩
 case round =>
  obtain ⟨k,rfl,hk2,hvs,hbr⟩:=hrel
  have HV:=hid hvs;clear hvs
  have HB:=hid hbr;clear hbr
  by_cases hlt:k<n
  ·have hb':Below w.heap.size w wr:=hb.trans (HB.out.mono (by rw [HG.out];exact Nat.le_refl _))
   have hIr:=hI.be hb' hh
   obtain ⟨b,off,rfl⟩:=tablesSome hIr (by omega)
   obtain ⟨_,_,hsz,ra,rn,rc,d0,d1,d2,hr,_⟩:=tablesAt hIr hlt
   have hhi:hi≤wr.heap.size:=by have:=hb'.size;omega
   have hgr:g<wr.heap.size:=by have:=HB.out.size;omega
   have HSA:Hid (rowsSz (tbx xs k).rows≤1048576):=hid (by have:=tabsSz_at HS.out (by rw [HL.out];exact hlt);omega)
   have HB':=hid hb';clear hb'
   have HI:=hid (And.intro hIr hr);clear hr hIr
   go_wp2_with fail
   refine (toTable1 (tbx xs k).nm (tbx xs k).ar ra rn rc (tbx xs k).rows wr HI.out.2 hhi HSA.out).mono ?_
   rintro e w2 ⟨a2,n2,c2,rfl,ho2,hb2⟩
   obtain ⟨hP,hP2,⟨v0,hcell⟩,⟨v1,hcell1⟩,⟨v2,hcell2⟩,hfz,hfz1,hfz2⟩:=HV.out.put hlt hgr hb2 ho2
   have HP:=hid hP;clear hP
   have HP2:=hid hP2;clear hP2
   have HB2:=hid (And.intro hb2 ho2);clear hb2 ho2
   go_wp2
   go_roundw
   case rel=>exact ⟨k+1,by go_num,by omega,HP.out,HB.out.trans HP2.out⟩
   case measure=>simp [intOf];omega
  ·go_wp2
   go_ret
   have hb':Below w.heap.size w wr:=hb.trans (HB.out.mono (by rw [HG.out];exact Nat.le_refl _))
   refine ⟨_,n,n,rfl,?_,hb'⟩
   obtain ⟨vs,ho,hv⟩:=HV.out
   have hgr:g<wr.heap.size:=by have:=HB.out.size;omega
   refine ⟨HL.out,Nat.le_refl _,by unfold maxLen;omega,fun _=>⟨g,0,rfl,by rw [HG.out];exact Nat.le_refl _,hgr,fun i hi=>?_⟩,fun h=>(by cases h)⟩
   obtain ⟨ra,rn,rc,g1,g2,g3,g4⟩:=hv i (by omega)
   have hnm:(tbx xs i).nm.size≤9223372036854775807:=by
    have:=tabsSz_at HS.out (i:=i) (by rw [HL.out];exact hi);omega
   refine ⟨[.string (tbx xs i).nm,.int .i64 (tbx xs i).ar,.slice ra rn rc],tbx xs i,rfl,?_,⟨ra,rn,rc,rfl,hnm,wdTrie g4 (by rw [← HG.out];omega)⟩,fun j hj=>?_⟩
   ·rw [tbx_lt (by rw [HL.out];exact hi)];simp [HL.out,hi]
   ·rcases (by omega:j=0∨j=1∨j=2) with rfl | rfl | rfl
    ·have:=ho.cells (g:=g) rfl (i*3) _ g1
     rw [Addr.add_lit] at this
     exact ⟨by simpa using this,fun _=>ho.frozenAt _⟩
    ·have:=ho.cells (g:=g) rfl (i*3+1) _ g2
     rw [Addr.add_lit] at this
     exact ⟨by simpa [Nat.add_assoc] using this,fun _=>ho.frozenAt _⟩
    ·have:=ho.cells (g:=g) rfl (i*3+2) _ g3
     rw [Addr.add_lit] at this
     exact ⟨by simpa [Nat.add_assoc] using this,fun _=>ho.frozenAt _⟩
theorem rowsMarkedQ {lo hi lo' hi':Nat} {w w':World} {a:Option Addr} {n c:Nat} {xss:List (List Int)} (h:RowsA true lo hi w a n c xss) (hm:MarkedQ lo' hi' w w'):∃ yss,RowsA true lo hi w' a n c yss∧∀ j,lens yss j=lens xss j:=by
 obtain ⟨h1,h2,h3,h5,h6⟩:=h
 by_cases hn:0<n
 ·obtain ⟨b,off,ha,hl,hb,hc⟩:=h5 hn
  have each:∀ i,i<n→∃ ys:List Int,ys.length=(rx xss i).length∧∃ ra rn rc,IntsA true lo hi w' ra rn rc ys∧w'.cell? ⟨b,off+i,none⟩=some (Value.slice ra rn rc)∧w'.frozen? ⟨b,off+i,none⟩=false:=by
   intro i hi
   obtain ⟨cs,x,g1,g2,⟨ra,rn,rc,rfl,g3⟩,g4⟩:=hc i hi
   have k0:=g4 0 (by omega)
   have kc:w.cell? ⟨b,off+i,none⟩=some (Value.slice ra rn rc):=by simpa using k0.1
   have kf:w.frozen? ⟨b,off+i,none⟩=false:=by simpa using k0.2 rfl
   obtain ⟨v',e1,q⟩:=hm.cell _ _ kc
   obtain rfl:v'=Value.slice ra rn rc:=by
    rcases q with rfl | ⟨_,_,h,_⟩ | ⟨_,_,h,_⟩
    ·rfl
    ·cases h
    ·cases h
   obtain ⟨ys,hy⟩:=g3.markedQ hm
   refine ⟨ys,?_,ra,rn,rc,hy,e1,by rw [hm.frz _ (by rw [kc];exact fun h=>(by cases h))];exact kf⟩
   have hx:rx xss i=x:=by simp [rx,g2]
   rw [hx,hy.len,g3.len]
  obtain ⟨y,hy⟩:=Deep.choose_lt each
  refine ⟨(List.range n).map y,⟨by simp,h2,h3,fun _=>⟨b,off,ha,hl,hb,fun i hi=>?_⟩,h6⟩,fun j=>?_⟩
  ·obtain ⟨hyl,ra,rn,rc,hyi,hyc,hyf⟩:=hy i hi
   refine ⟨[.slice ra rn rc],y i,rfl,by simp [hi],⟨ra,rn,rc,rfl,hyi⟩,fun j hj=>?_⟩
   obtain rfl:j=0:=by omega
   exact ⟨by simpa using hyc,fun _=>by simpa using hyf⟩
  ·induction j with
   | zero=>simp [lens]
   | succ j ih =>
    simp only [lens,ih]
    by_cases hj:j<n
    ·have:rx ((List.range n).map y) j=y j:=by simp [rx,hj]
     rw [this,(hy j hj).1]
    ·have e1:rx ((List.range n).map y) j=[]:=by simp [rx,hj]
     have e2:rx xss j=[]:=by simp [rx,h1,hj]
     rw [e1,e2]
 ·exact ⟨xss,⟨h1,h2,h3,fun h=>absurd h hn,h6⟩,fun _=>rfl⟩
theorem markedQ_int {lo hi:Nat} {w:World} {b o:Nat} {x x':Int} (h:w.cell? ⟨b,o,none⟩=some (.int .i64 x)) (h1:lo≤b) (h2:b<hi) (hx:I64 x'):MarkedQ lo hi w (w.setCell ⟨b,o,none⟩ (.int .i64 x')):=by
 refine ⟨rfl,rfl,rfl,by rw [szSet];exact Nat.le_refl _,fun k _ hk=>?_,fun p v hp=>?_,fun p _=>by simp⟩
 ·rw [heap_setCell_other w ⟨b,o,none⟩ k _ (by show k ≠ b;omega)]
 ·by_cases e:(⟨b,o,none⟩:Addr)=p
  ·subst e
   rw [h] at hp
   cases hp
   exact ⟨_,cset_same h,.inr (.inl ⟨x,x',rfl,rfl,hx⟩)⟩
  ·exact ⟨v,by rw [cset_other e];exact hp,.inl rfl⟩
def tabCnt (xs:List TableD):Nat→Nat
 | 0=>0
 | k+1=>tabCnt xs k+(2+lens (tbx xs k).rows (tbx xs k).rows.length)
theorem tabCnt_le (xs:List TableD) (k:Nat):tabCnt xs k≤2*k+tabLens xs k:=by
 induction k with
 | zero=>simp [tabCnt]
 | succ k ih=>simp only [tabCnt,tabLens,rowsSz];omega
set_option maxHeartbeats 3200000 in
theorem markTables {lo hi:Nat} (a:Option Addr) (n c:Nat) (xs:List TableD) (k:Nat) (w:World) (hI:TablesA true lo hi w a n c xs) (hh:hi≤w.heap.size) (h1:k≤1000) (hs:tabsSz xs≤1048576) :
 Calls Try.prog 29 #[.slice a n c,.int .i64 k] w (GivesMQ lo hi w ((k+tabCnt xs n:Nat):Int)):=by
 have hl:=hI.len
 have hsm:=hI.small
 have HL:=hid hl;clear hl
 have HS:=hid hs;clear hs
 go_enter Try.func29,Try.ntmps29
 go_wp2_with fail
 go_loopw [1,5] (fun q i wr=>∃ (j t:Nat),i=.int .i64 j∧q=.int .i64 t∧Hid (t=k+tabCnt xs j)∧t≤2099152∧j≤n∧Hid (MarkedQ lo hi w wr)) (fun _ i _=>n - (intOf i).toNat)
 case atStart=>exact ⟨0,_,rfl,rfl,hid (by simp [tabCnt]),by omega,by omega,hid (MarkedQ.refl _ _ _)⟩
 case round =>
  obtain ⟨j,t,rfl,rfl,HT,ht,hj,HM⟩:=hrel
  by_cases hlt:j<n
  ·obtain ⟨b,off,rfl⟩:=tablesSome hI (by omega)
   obtain ⟨g1,g2,hsz,ra,rn,rc,d0,d1,d2,hr,hfz⟩:=tablesAt hI hlt
   obtain ⟨v0,e0,q0⟩:=HM.out.cell _ _ d0
   obtain ⟨s0,rfl⟩:∃ s,v0=.string s:=by
    rcases q0 with rfl | ⟨_,_,h,_⟩ | ⟨_,s,_,rfl⟩
    ·exact ⟨_,rfl⟩
    ·cases h
    ·exact ⟨s,rfl⟩
   obtain ⟨v1,e1,q1⟩:=HM.out.cell _ _ d1
   obtain ⟨x0,rfl⟩:∃ x,v1=.int .i64 x:=by
    rcases q1 with rfl | ⟨_,x,_,rfl,_⟩ | ⟨_,s,h,_⟩
    ·exact ⟨_,rfl⟩
    ·exact ⟨x,rfl⟩
    ·cases h
   obtain ⟨v2,e2,q2⟩:=HM.out.cell _ _ d2
   obtain rfl:v2=.slice ra rn rc:=by
    rcases q2 with rfl | ⟨_,_,h,_⟩ | ⟨_,_,h,_⟩
    ·rfl
    ·cases h
    ·cases h
   have hf0:wr.frozen? ⟨b,off+j*3,none⟩=false:=by rw [HM.out.frz _ (by rw [d0];exact fun h=>(by cases h))];exact (hfz rfl).1
   have hf1:wr.frozen? ⟨b,off+j*3+1,none⟩=false:=by rw [HM.out.frz _ (by rw [d1];exact fun h=>(by cases h))];exact (hfz rfl).2.1
   have hzr:=HM.out.size
   have hvl:(tbx xs j).rows.length=rn:=hr.2.len
   have hszj:=tabsSz_at HS.out (i:=j) (by rw [HL.out];exact hlt)
   have hrn2:rn≤1048576:=by unfold rowsSz at hszj;omega
   have hsum:lens (tbx xs j).rows rn≤1048576:=by unfold rowsSz at hszj;rw [hvl] at hszj;omega
   have hcb:k+tabCnt xs (j+1)≤2099152:=by
    have a1:=tabCnt_le xs (j+1)
    have a2:=tabLens_mono (xs:=xs) (i:=j+1) (k:=xs.length) (by rw [HL.out];omega)
    have a3:=HS.out;have a4:=HL.out;unfold tabsSz at a3;omega
   have hcb2:t+2+lens (tbx xs j).rows rn=k+tabCnt xs (j+1):=by have:=HT.out;simp only [tabCnt];rw [hvl];omega
   have HI:=hid (And.intro hI (And.intro hr (And.intro d0 (And.intro d1 (And.intro d2 (And.intro hvl (And.intro hszj (And.intro hsum hfz))))))));clear hI hr d0 d1 d2 hvl hfz q0 q1 q2 hszj hsum
   have HCB:=hid hcb2;clear hcb2
   go_wp2_with fail
   refine (markTextAny t _ (by omega)).mono ?_
   rintro e w3 ⟨s3,rfl,hb3⟩
   have e0':w3.cell? ⟨b,off+j*3,none⟩=some (.string s0):=by rw [(bcell hb3).1 _ _ (by omega)];exact e0
   have e1':w3.cell? ⟨b,off+j*3+1,none⟩=some (.int .i64 x0):=by rw [(bcell hb3).1 _ _ (by omega)];exact e1
   have e2':w3.cell? ⟨b,off+j*3+2,none⟩=some (.slice ra rn rc):=by rw [(bcell hb3).1 _ _ (by omega)];exact e2
   have f0':w3.frozen? ⟨b,off+j*3,none⟩=false:=by rw [(bcell hb3).2 _ _ (by omega)];exact hf0
   have f1':w3.frozen? ⟨b,off+j*3+1,none⟩=false:=by rw [(bcell hb3).2 _ _ (by omega)];exact hf1
   have hM3:MarkedQ lo hi w w3:=HM.out.trans (.of (.of_below hb3))
   have hM4:=hM3.trans (markedQ_str (s':=s3) e0' g1 g2)
   obtain ⟨wa,ha⟩:∃ wa,wa=w3.setCell ⟨b,off+j*3,none⟩ (.string s3):=⟨_,rfl⟩
   rw [← ha] at hM4
   have c1':wa.cell? ⟨b,off+j*3+1,none⟩=some (.int .i64 x0):=by rw [ha,cset_other (by intro h;simp only [Addr.mk.injEq] at h;omega)];exact e1'
   have c2':wa.cell? ⟨b,off+j*3+2,none⟩=some (.slice ra rn rc):=by rw [ha,cset_other (by intro h;simp only [Addr.mk.injEq] at h;omega)];exact e2'
   have cf1:wa.frozen? ⟨b,off+j*3+1,none⟩=false:=by rw [ha,fset];exact f1'
   have hM5:=hM4.trans (markedQ_int (x':=(t:Int)+1) c1' g1 g2 (by unfold I64;omega))
   obtain ⟨wb,hwb⟩:∃ wb,wb=wa.setCell ⟨b,off+j*3+1,none⟩ (.int .i64 ((t:Int)+1)):=⟨_,rfl⟩
   rw [← hwb] at hM5
   have c2'':wb.cell? ⟨b,off+j*3+2,none⟩=some (.slice ra rn rc):=by rw [hwb,cset_other (by intro h;simp only [Addr.mk.injEq] at h;omega)];exact c2'
   obtain ⟨ys,hy,hyl⟩:=rowsMarkedQ HI.out.2.1.2 hM5
   have HY:=hid (And.intro hy hyl);clear hy hyl
   have HMM:=hid hM5;clear hM5 hM4 hM3 hb3 e0 e1 e2
   have HWA:=hid ha
   have HWB:=hid hwb
   clear ha hwb
   go_wp2_with fail
   rw [← HWA.out,← HWB.out]
   refine (markRowsB ra rn rc ys ((t:Int)+1+1) wb HY.out.1 (by omega) (by omega) hrn2 (by rw [HY.out.1.len,HY.out.2];exact HI.out.2.2.2.2.2.2.2.1)).mono ?_
   rintro e w5 ⟨rfl,hm5⟩
   rw [HY.out.2]
   have HM5:=hid (HMM.out.trans (.of (.of_marked hm5)));clear hm5
   obtain ⟨q,hq⟩:∃ q:Nat,(q:Int)=(t:Int)+1+1+(lens (tbx xs j).rows rn:Nat):=⟨t+2+lens (tbx xs j).rows rn,by omega⟩
   rw [← hq]
   have HQ:Hid (q=k+tabCnt xs (j+1)):=hid (by have:=HCB.out;omega)
   have hq2:q≤2099152:=by have:=HCB.out;omega
   clear hq
   go_wp2_with fail
   go_roundw
   case rel=>exact ⟨j+1,q,by go_num,rfl,HQ,hq2,by omega,HM5⟩
   case measure=>simp [intOf];omega
  ·go_wp2_with fail
   go_ret
   obtain rfl:j=n:=by omega
   exact ⟨by rw [HT.out];rfl,HM.out⟩
abbrev dbV (a:Option Addr) (n c:Nat):Value:=.agg #[.slice a n c]
section
variable {fz:Bool} {lo hi B lo' hi':Nat} {w w':World} {a:Option Addr} {n c:Nat} {xs:List TableD}
theorem beTables (h:TablesA fz lo hi w a n c xs) (hb:Below B w w') (hh:hi≤B):TablesA fz lo hi w' a n c xs:=SlA.be tableOK h hb hh
theorem kpTables (h:TablesA fz lo hi w a n c xs) (hb:Keeps lo hi w w'):TablesA fz lo hi w' a n c xs:=SlA.keep tableOK h hb
theorem wdTables (h:TablesA fz lo hi w a n c xs) (hl:lo'≤lo):TablesA fz lo' hi w a n c xs:=SlA.wide tableOK h hl (Nat.le_refl _)
theorem hgTables (h:TablesA fz lo hi w a n c xs) (hl:hi≤hi'):TablesA fz lo hi' w a n c xs:=SlA.wide tableOK h (Nat.le_refl _) hl
end
def GvDb (w:World) (xs:List TableD) (e:Ending) (w':World):Prop:=∃ a n c,e=.returned (dbV a n c)∧TablesA true w.heap.size w'.heap.size w' a n c xs∧Below w.heap.size w w'
set_option maxHeartbeats 800000 in
theorem szK_Db {fz:Bool} {lo hi:Nat} (a:Option Addr) (n c:Nat) (xs:List TableD) (left:Int) (w:World) (hI:TablesA fz lo hi w a n c xs) (hh:hi≤w.heap.size) (h0:0≤left) (h1:left≤1048576) :
 Calls Try.prog 4 #[dbV a n c,.int .i64 left] w (Leaves w (.int .i64 (szI (tabsSz xs) left))):=by
 by_cases hle:(tabsSz xs:Int)≤left
 ·have hsz:=szI_yes hle
  obtain ⟨t,ht⟩:∃ t,t=left - tabsSz xs:=⟨_,rfl⟩
  have ht0:0≤t:=by omega
  rw [← ht] at hsz
  have HS:=hid hsz;clear hsz
  have HT:=hid (And.intro ht hle);clear ht hle
  go_enter Try.func4,Try.ntmps4
  go_wp2_with fail
  refine (szTables a n c xs left _ (beTables (B:=w.heap.size) hI belA hh) leA h0 h1).mono ?_
  rintro e w1 ⟨rfl,m1⟩
  have HB:=hid (show Below w.heap.size w w1 from Below.trans belA (m1.mono leA));clear m1
  rw [HS.out]
  go_wp2_with fail
  go_ret
  exact ⟨by rw [HS.out];rfl,HB.out⟩
 ·have hsz:=szI_no hle
  have HS:=hid hsz;clear hsz
  have HT:=hid hle;clear hle
  go_enter Try.func4,Try.ntmps4
  go_wp2_with fail
  refine (szTables a n c xs left _ (beTables (B:=w.heap.size) hI belA hh) leA h0 h1).mono ?_
  rintro e w1 ⟨rfl,m1⟩
  have HB:=hid (show Below w.heap.size w w1 from Below.trans belA (m1.mono leA));clear m1
  rw [HS.out]
  go_wp2_with fail
  go_ret
  exact ⟨by rw [HS.out];rfl,HB.out⟩
set_option maxHeartbeats 800000 in
theorem eqK_Db {fz fz':Bool} {lo hi lo' hi':Nat} (a a':Option Addr) (n c n' c':Nat) (xs:List TableD) (w:World) (hI:TablesA fz lo hi w a n c xs) (hh:hi≤w.heap.size) (hJ:TablesA fz' lo' hi' w a' n' c' xs) (hh':hi'≤w.heap.size) :
 Calls Try.prog 11 #[dbV a n c,dbV a' n' c'] w (Leaves w (.bool true)):=by
 go_enter Try.func11,Try.ntmps11
 go_wp2_with fail
 refine (eqTables a a' n c n' c' xs _ (beTables (B:=w.heap.size) hI belA hh) leA (beTables (B:=w.heap.size) hJ belA hh') leA).mono ?_
 rintro e w1 ⟨rfl,m1⟩
 have HB:=hid (show Below w.heap.size w w1 from Below.trans belA (m1.mono leA));clear m1
 go_wp2_with fail
 go_ret
 exact ⟨rfl,HB.out⟩
set_option maxHeartbeats 1600000 in
theorem toK_Db {lo hi:Nat} (a:Option Addr) (n c:Nat) (xs:List TableD) (w:World) (hI:TablesA false lo hi w a n c xs) (hh:hi≤w.heap.size) (hs:tabsSz xs≤1048576) :
 Calls Try.prog 7 #[dbV a n c] w (GvDb w xs):=by
 go_enter Try.func7,Try.ntmps7
 go_wp2_with fail
 refine (toTables a n c xs _ (beTables (B:=w.heap.size) hI belA hh) leA hs).mono ?_
 rintro e w1 ⟨a1,n1,c1,rfl,ho1,hb1⟩
 have hz:=hb1.size
 simp at hz
 have hb2:Below w.heap.size w w1:=Below.trans belA (hb1.mono leA)
 have q0:w1.cell? ⟨w.heap.size+1,0,none⟩=some (.slice none 0 0):=(by rw [(bcell hb1).1 _ _ (by first | omega | (simp;done) | (simp;omega))];first | with_reducible assumption | (go_simp;done) | assumption | (simp [World.cell?];done))
 have q1:w1.frozen? ⟨w.heap.size+1,0,none⟩=false:=(by rw [(bcell hb1).2 _ _ (by first | omega | (simp;done) | (simp;omega))];first | with_reducible assumption | (go_simp;done) | assumption | (simp [World.frozen?];done))
 have r0:w1.cell? ⟨w.heap.size+1+1,0,none⟩=some (.slice none 0 0):=(by rw [(bcell hb1).1 _ _ (by first | omega | (simp;done) | (simp;omega))];first | with_reducible assumption | (go_simp;done) | assumption | (simp [World.cell?];done))
 have r1:w1.frozen? ⟨w.heap.size+1+1,0,none⟩=false:=(by rw [(bcell hb1).2 _ _ (by first | omega | (simp;done) | (simp;omega))];first | with_reducible assumption | (go_simp;done) | assumption | (simp [World.frozen?];done))
 have HO:=hid ho1;clear ho1
 have HB:=hid (And.intro hb1 hb2);clear hb1 hb2
 go_wp2_with fail
 refine bodyPost_ret (v:=dbV a1 n1 c1) ?_ rfl ⟨_,_,_,rfl,?_,?_⟩
 ·simp [results,Try.results7,go_sem,q0]
 ·have h1:TablesA true (w.heap.size+1+1+1) w1.heap.size w1 a1 n1 c1 xs:=by simpa using HO.out
  exact hgTables (wdTables (kpTables h1 (Keeps.sc (Keeps.sc (Keeps.refl _ _ _) (.inl (by omega)) _) (.inl (by omega)) _)) (by omega)) (by simp only [szSet];omega)
 ·exact Below.trans HB.out.2 (Below.setCell (Below.setCell (Below.refl _ _) (by dsimp only;omega) _) (by dsimp only;omega) _)
theorem tabCnt_sz (xs:List TableD):tabCnt xs xs.length≤2*tabsSz xs:=by
 have:=tabCnt_le xs xs.length;unfold tabsSz;omega
set_option maxHeartbeats 800000 in
theorem markK_Db {lo hi:Nat} (a:Option Addr) (n c:Nat) (xs:List TableD) (k:Int) (w:World) (hI:TablesA true lo hi w a n c xs) (hh:hi≤w.heap.size) (h0:0≤k) (h1:k≤1000) (hs:tabsSz xs≤1048576) :
 Calls Try.prog 13 #[dbV a n c,.int .i64 k] w (GivesMQ lo hi w (k+(tabCnt xs xs.length:Nat))):=by
 obtain ⟨k,rfl⟩:=Int.eq_ofNat_of_zero_le h0
 have HL:=hid hI.len
 have HI:=hid hI;clear hI
 go_enter Try.func13,Try.ntmps13
 go_wp2_with fail
 refine (markTables a n c xs k _ (beTables (B:=w.heap.size) HI.out belA hh) leA (by omega) hs).mono ?_
 rintro e w1 ⟨rfl,hm1⟩
 have HM:=hid ((MarkedQ.of (MarkedG.of_below (lo:=lo) (hi:=hi) (w:=w) belA)).trans hm1);clear hm1
 obtain ⟨q,hq⟩:∃ q:Nat,q=k+tabCnt xs n:=⟨_,rfl⟩
 rw [← hq]
 have HQ:Hid ((q:Int)=(k:Int)+(tabCnt xs xs.length:Nat)):=hid (by rw [HL.out,hq];omega)
 clear hq
 go_wp2_with fail
 go_ret
 exact ⟨by rw [← HQ.out];rfl,HM.out⟩
end Go.Proofs.Ytlpdbkhekbdceaa
namespace Go.Proofs.Ytlpdbkhekbdceaa
set_option linter.unusedSimpArgs false
set_option linter.unusedVariables false
open Go.RowKit
def cellsC (lo:Nat) (w:World):Nat→Nat→Prop:=fun b i=>lo≤b∧b<w.heap.size∧w.cell? ⟨b,i,none⟩ ≠ none
theorem no_tag {lo:Nat} {w:World} {b:Nat}:¬ Tag (cellsC lo w) b:=by
 rintro ⟨N,h⟩
 have h0:=(h N (Nat.le_refl _)).2.1
 obtain ⟨o,ho⟩:∃ o,w.heap[b]? = some o:=⟨_,Array.getElem?_eq_getElem h0⟩
 cases o with
 | cells arr e fz =>
  have h1:=(h (N+arr.size) (by omega)).2.2
  simp only [World.cell?,ho] at h1
  simp at h1
 | _ =>
  have h1:=(h N (Nat.le_refl _)).2.2
  simp [World.cell?,ho] at h1
def Out (C0:Nat→Nat→Prop) (X:AV) (w:World) (e:Ending) (w':World):Prop :=
 ∃ v G',e=.returned v∧CV G' w' X v∧Below w.heap.size w w'∧(∀ b i,G'.C b i→b<w'.heap.size)∧(∀ b i,G'.C b i→b<w.heap.size→C0 b i)∧(∀ b i,G'.C b i→w.heap.size≤b→w'.frozen? ⟨b,i,none⟩=false)
theorem afn_calls {f:FuncId} {args:List AV} {X:AV} (h:AFn f args [] (fun r os=>r=X∧os=[])) {w:World} {C0:Nat→Nat→Prop} (hC0:∀ b i,C0 b i→b<w.heap.size) {vs:List Value} (hv:∀ G:Gh,G.C=C0→CVs G w args vs):Calls Try.prog f vs.toArray w (Out C0 X w):=by
 refine (h.2 w ⟨C0,fun _=>.slice none 0 0,fun _=>0,fun _=>0,fun _=>0⟩ vs (hv _ rfl) hC0 (fun i l hl=>by simp at hl) (fun i j hi=>absurd hi (Nat.not_lt_zero _))).mono ?_
 rintro e w' ⟨v,r,os,G',rfl,hp⟩
 obtain ⟨rfl,rfl⟩:=hp.post
 exact ⟨v,G',rfl,hp.res,⟨hp.fr.os,hp.fr.tape,hp.fr.output,hp.fr.size,fun k hk=>hp.fr.block k hk (fun ⟨i,hi,_⟩=>absurd hi (Nat.not_lt_zero _))⟩,hp.cs,hp.lc,hp.uf⟩
end Go.Proofs.Ytlpdbkhekbdceaa
namespace Go.Proofs.Ytlpdbkhekbdceaa
set_option linter.unusedSimpArgs false
set_option linter.unusedVariables false
open Go.RowKit
theorem ints_cxc {C:Nat→Nat→Prop} {fz:Bool} {lo hi:Nat} {w:World} {a:Option Addr} {n c:Nat} {xs:List Int} (h:IntsA fz lo hi w a n c xs) (hC:∀ b i,lo≤b→b<hi→w.cell? ⟨b,i,none⟩ ≠ none→C b i):CX C w (intsD xs) [.slice a n c]:=by
 obtain ⟨h1,h2,h3,h4,h5,h6⟩:=h
 refine ⟨a,n,c,xs.map (Value.int .i64),rfl,by simpa using h1,CXk.singles.2 ⟨by simp,fun i x hx=>?_⟩,by simp [h1],h2,h3,h6,fun u hu=>?_,fun hn=>?_⟩
 ·rw [List.getElem?_map] at hx
  cases e:xs[i]? with
  | none=>rw [e] at hx;cases hx
  | some y=>rw [e] at hx;cases hx;exact ⟨.int .i64 y,by simp [e],rfl,h4 y (List.mem_of_getElem? e)⟩
 ·obtain ⟨x,_,rfl⟩:=List.mem_map.1 hu;rfl
 ·obtain ⟨b,off,ha,hl,hb,hc⟩:=h5 hn
  refine ⟨b,off,ha,fun i u hu=>?_⟩
  rw [List.getElem?_map] at hu
  cases e:xs[i]? with
  | none=>rw [e] at hu;cases hu
  | some y =>
   rw [e] at hu
   cases hu
   have hi:i<xs.length:=(List.getElem?_eq_some_iff.1 e).1
   have h8:=(hc i (by omega)).1
   exact ⟨hC _ _ hl hb (by rw [h8];exact fun x=>(by cases x)),by rw [h8,ix_lt hi,(List.getElem?_eq_some_iff.1 e).2]⟩
theorem rows_cxc {C:Nat→Nat→Prop} {fz:Bool} {lo hi:Nat} {w:World} {a:Option Addr} {n c:Nat} {xss:List (List Int)} (h:RowsA fz lo hi w a n c xss) (hC:∀ b i,lo≤b→b<hi→w.cell? ⟨b,i,none⟩ ≠ none→C b i):CX C w (rowsD xss) [.slice a n c]:=by
 obtain ⟨h1,h2,h3,h4,h5⟩:=h
 by_cases hn:0<n
 ·obtain ⟨b,off,ha,hl,hb,hc⟩:=h4 hn
  have hat:∀ i,i<n→∃ ra rn rc,IntsA fz lo hi w ra rn rc (rx xss i)∧w.cell? ⟨b,off+i,none⟩=some (.slice ra rn rc):=fun i hi=>by
   obtain ⟨cs,x,e1,e2,⟨ra,rn,rc,e3,e4⟩,e5⟩:=hc i hi
   subst e3
   have hx:rx xss i=x:=by simp [rx,List.getD,e2]
   have:=(e5 0 (by simp)).1
   exact ⟨ra,rn,rc,by rw [hx];exact e4,by simpa using this⟩
  have hex:∃ f:Nat→Value,∀ i,i<n→(∃ ra rn rc,f i=.slice ra rn rc∧IntsA fz lo hi w ra rn rc (rx xss i))∧w.cell? ⟨b,off+i,none⟩=some (f i):=by
   refine ⟨fun i=>(w.cell? ⟨b,off+i,none⟩).getD undef,fun i hi=>?_⟩
   obtain ⟨ra,rn,rc,g1,g2⟩:=hat i hi
   refine ⟨⟨ra,rn,rc,by simp only [g2];rfl,g1⟩,by simp only [g2];rfl⟩
  obtain ⟨f,hf⟩:=hex
  refine ⟨a,n,c,(List.range n).map f,rfl,by simpa using h1,CXk.singles.2 ⟨by simp [h1],fun i x hx=>?_⟩,by simp,h2,h3,h5,fun u hu=>?_,fun _=>⟨b,off,ha,fun i u hu=>?_⟩⟩
  ·rw [List.getElem?_map] at hx
   cases e:xss[i]? with
   | none=>rw [e] at hx;cases hx
   | some y =>
    rw [e] at hx;cases hx
    have hi:i<xss.length:=(List.getElem?_eq_some_iff.1 e).1
    obtain ⟨⟨ra,rn,rc,g1,g2⟩,_⟩:=hf i (by omega)
    have hy:rx xss i=y:=by simp [rx,List.getD,e]
    exact ⟨f i,by simp [show i<n by omega],by rw [g1,← hy];exact ints_cxc g2 hC⟩
  ·obtain ⟨i,hi,rfl⟩:=List.mem_map.1 hu
   obtain ⟨⟨ra,rn,rc,g1,_⟩,_⟩:=hf i (by simpa using hi)
   rw [g1];rfl
  ·have hi:i<n:=by have:=(List.getElem?_eq_some_iff.1 hu).1;simpa using this
   simp [hi] at hu
   subst hu
   obtain ⟨⟨ra,rn,rc,g1,_⟩,g2⟩:=hf i hi
   exact ⟨hC _ _ hl hb (by rw [g2];exact fun x=>(by cases x)),g2⟩
 ·obtain rfl:n=0:=by omega
  obtain rfl:=List.eq_nil_of_length_eq_zero h1
  exact ⟨a,0,c,[],rfl,rfl,rfl,by simp,h2,h3,h5,fun u hu=>(by cases hu),fun h=>absurd h (Nat.lt_irrefl 0)⟩
end Go.Proofs.Ytlpdbkhekbdceaa
