/- Lemmas for the proof of FnExactMaximize, part 7 of 56: no condition of their own. -/
import Derived.Test.YtpbclpopoodklaaW1
namespace Go.Proofs.Ytpbclpopoodklaa
set_option linter.unusedSimpArgs false
set_option linter.unusedVariables false
open Go.RowKit
theorem implWithin (x lo hi:Int) (w:World):Calls Try.prog 41 #[.int .i64 x,.int .i64 lo,.int .i64 hi] w (Gives w (.bool (decide (lo≤x∧x≤hi)))):=by
  by_cases h1:lo≤x
  · by_cases h2:x≤hi
    · have hd:decide (lo≤x∧x≤hi)=true:=by simp;omega
      rw [hd]
      go_enter Try.func41,Try.ntmps41
      go_wp2
      go_ret
      exact ⟨rfl,0,rfl⟩
    · have hd:decide (lo≤x∧x≤hi)=false:=by simp;omega
      rw [hd]
      go_enter Try.func41,Try.ntmps41
      go_wp2
      go_ret
      exact ⟨rfl,0,rfl⟩
  · have hd:decide (lo≤x∧x≤hi)=false:=by simp;omega
    rw [hd]
    go_enter Try.func41,Try.ntmps41
    go_wp2
    go_ret
    exact ⟨rfl,0,rfl⟩
theorem specIn (x lo hi:Int) (w:World):Calls Try.prog 34 #[.int .i64 x,.int .i64 lo,.int .i64 hi] w (Gives w (.bool (decide (lo≤x∧x≤hi)))):=by
  by_cases h1:lo≤x
  · by_cases h2:x≤hi
    · have hd:decide (lo≤x∧x≤hi)=true:=by simp;omega
      rw [hd]
      go_enter Try.func34,Try.ntmps34
      go_wp2
      go_ret
      exact ⟨rfl,0,rfl⟩
    · have hd:decide (lo≤x∧x≤hi)=false:=by simp;omega
      rw [hd]
      go_enter Try.func34,Try.ntmps34
      go_wp2
      go_ret
      exact ⟨rfl,0,rfl⟩
  · have hd:decide (lo≤x∧x≤hi)=false:=by simp;omega
    rw [hd]
    go_enter Try.func34,Try.ntmps34
    go_wp2
    go_ret
    exact ⟨rfl,0,rfl⟩
theorem IntsA.take {fz:Bool} {lo hi:Nat} {w:World} {a:Option Addr} {n c:Nat} {xs:List Int} (h:IntsA fz lo hi w a n c xs) {j:Nat} (hj:j≤n):IntsA fz lo hi w a j c (xs.take j):=by
  obtain ⟨h1,h2,h3,h4,h5,h6⟩:=h
  refine ⟨by simp;omega,by omega,h3,fun z hz=>h4 z (List.mem_of_mem_take hz),fun hn=>?_,h6⟩
  obtain ⟨b,off,ha,hl,hb,hc⟩:=h5 (by omega)
  refine ⟨b,off,ha,hl,hb,fun i hi=>?_⟩
  obtain ⟨g1,g2⟩:=hc i (by omega)
  refine ⟨?_,g2⟩
  rw [g1];simp [ix,hi]
def SetTo (xs:List Int) (n:Int) (k:Nat):Prop:=∀ i,i<k→(0≤ix xs i∧ix xs i≤n - 1)∧¬ 0≤findF (xs.take i) (ix xs i)
open Classical in
noncomputable def setB (xs:List Int) (n:Int):Bool:=decide (SetTo xs n xs.length)
theorem SetTo.succ {xs:List Int} {n:Int} {k:Nat} (h:SetTo xs n k) (h1:(0≤ix xs k∧ix xs k≤n - 1)∧¬ 0≤findF (xs.take k) (ix xs k)):SetTo xs n (k+1):=by
  intro i hi
  by_cases e:i=k
  · subst e;exact h1
  · exact h i (by omega)
noncomputable def permB (xs:List Int):Bool:=decide (xs.length≤5) && setB xs xs.length
end Go.Proofs.Ytpbclpopoodklaa
