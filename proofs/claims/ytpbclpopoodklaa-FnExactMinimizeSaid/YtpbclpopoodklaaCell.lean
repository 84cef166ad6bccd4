/- Lemmas for the proof of FnExactMaximize, part 11 of 56: no condition of their own. -/
import Derived.Test.YtpbclpopoodklaaQ6
namespace Go.Proofs.Ytpbclpopoodklaa
set_option linter.unusedSimpArgs false
set_option linter.unusedVariables false
open Go.RowKit
def Later (B:Nat) (w0:World):Type:={w':World // Below B w0 w'}
def Later.w {B:Nat} {w0:World} (x:Later B w0):World:=x.1
theorem Later.be {B:Nat} {w0:World} (x:Later B w0):Below B w0 x.w:=x.2
instance (B:Nat) (w0:World):Nonempty (Later B w0):=⟨⟨w0,Below.refl B w0⟩⟩
theorem below_drew1 {B:Nat} {a w:World} (h:Below B a w):Below B a w.drew:=⟨h.os,h.tape,h.output,h.size,h.block⟩
theorem wp_region_later {B:Nat} {w0:World} {id:Nat} {Q:Exit→Act→World→Prop} {a:Act} {w:World} {l:List Oper} (hm:Try.prog.follows .mixedOrders=true) (hB:Region.lexB .any l.toArray=true) (hw:Below B w0 w)
    (h:wpQuiet Try.prog l.toArray (fun w'=>∃ n:Later B w0,w'=n.w) (fun a'=>∀ w',(∃ n:Later B w0,w'=n.w)→Q .normal a' w') l a):(Code.region id l.toArray true).wp Try.prog Q a w :=
  wp_region_quiet (C:=fun w'=>∃ n:Later B w0,w'=n.w) hm hB ⟨⟨w.drew,below_drew1 hw⟩,rfl⟩ (by simpa using h)
theorem later_of {B:Nat} {w0:World} {f:FuncId} {args:Array Value} {v:Value} (n:Later B w0) (hB:B≤w0.heap.size) (h:Calls Try.prog f args n.w (Leaves n.w v)) :
    Calls Try.prog f args n.w fun e w''=>e=.returned v∧∃ m:Later B w0,w''=m.w :=
  h.mono fun _ w'' ⟨he,hb⟩=>⟨he,⟨w'',n.be.trans (hb.mono (Nat.le_trans hB n.be.size))⟩,rfl⟩
theorem later_gives {B:Nat} {w0:World} {f:FuncId} {args:Array Value} {v:Value} (n:Later B w0) (hB:B≤w0.heap.size) (h:Calls Try.prog f args n.w (Gives n.w v)) :
    Calls Try.prog f args n.w fun e w''=>e=.returned v∧∃ m:Later B w0,w''=m.w:=later_of n hB (h.mono fun _ _ h=>h.leaves)
theorem Later.cell {B:Nat} {w0:World} {b o:Nat} {v:Value} (h:w0.cell? ⟨b,o,none⟩=some v) (hb:b<B) (x:Later B w0):x.w.cell? ⟨b,o,none⟩=some v:=by
  rw [x.be.cell (p:=⟨b,o,none⟩) hb];exact h
theorem Later.size {B:Nat} {w0:World} (x:Later B w0):w0.heap.size≤x.w.heap.size:=x.be.size
end Go.Proofs.Ytpbclpopoodklaa
