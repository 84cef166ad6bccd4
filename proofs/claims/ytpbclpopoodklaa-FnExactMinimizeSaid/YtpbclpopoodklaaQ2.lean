/- Lemmas for the proof of FnExactMaximize, part 8 of 56: no condition of their own. -/
import Derived.Test.YtpbclpopoodklaaQ1
namespace Go.Proofs.Ytpbclpopoodklaa
set_option linter.unusedSimpArgs false
set_option linter.unusedVariables false
open Go.RowKit
def cmpI (x y:Int):Int:=if x<y then -1 else if y<x then 1 else 0
theorem implCmp (x y:Int) (w:World):Calls Try.prog 67 #[.int .i64 x,.int .i64 y] w (Gives w (.int .i64 (cmpI x y))):=by
  rcases Int.lt_trichotomy x y with h | h | h
  · have hc:cmpI x y = -1:=by unfold cmpI;rw [if_pos h]
    rw [hc]
    go_enter Try.func67,Try.ntmps67
    go_wp2
    go_ret
    exact ⟨rfl,0,rfl⟩
  · have hc:cmpI x y=0:=by unfold cmpI;rw [if_neg (by omega),if_neg (by omega)]
    rw [hc]
    have h1:¬ x<y:=by omega
    have h2:¬ y<x:=by omega
    clear h
    go_enter Try.func67,Try.ntmps67
    go_wp2
    go_ret
    exact ⟨rfl,0,rfl⟩
  · have hc:cmpI x y=1:=by unfold cmpI;rw [if_neg (by omega),if_pos h]
    rw [hc]
    go_enter Try.func67,Try.ntmps67
    go_wp2
    go_ret
    exact ⟨rfl,0,rfl⟩
def ValTo (xs:List Int) (k:Nat):Prop:=∀ i,i<k→0≤ix xs i∧ix xs i≤99
open Classical in
noncomputable def valB (xs:List Int):Bool:=decide (ValTo xs xs.length)
def cmpR:List Int→List Int→Int
  | x :: xs,y :: ys=>if x=y then cmpR xs ys else cmpI x y
  | [],[]=>0
  | [],_ :: _=>-1
  | _ :: _,[]=>1
end Go.Proofs.Ytpbclpopoodklaa
