/- Lemmas for the proof of FnExactMaximize, part 9 of 56: no condition of their own. -/
import Derived.Test.YtpbclpopoodklaaW1
namespace Go.Proofs.Ytpbclpopoodklaa
set_option linter.unusedSimpArgs false
set_option linter.unusedVariables false
open Go.RowKit
noncomputable def ascAll (xss:List (List Int)):Bool:=@decide (0<xss.length∧∀ i,i<xss.length→ascB (rx xss i)=true) (Classical.propDecidable _)
def RowsTo (g:Nat) (w:World) (n:Nat) (xss:List (List Int)) (k:Nat):Prop :=
  ∃ vs,w.ownsRow g 57 1 (.slice (some ⟨g,0,none⟩) n n) n vs∧∀ i,i<k→∃ ra rn rc,vs[i]? = some (.slice ra rn rc)∧IntsA true (g+1) w.heap.size w ra rn rc (rx xss i)
theorem RowsTo.put {g:Nat} {w w1:World} {n:Nat} {xss:List (List Int)} {k:Nat} (h:RowsTo g w n xss k) (hk:k<n) (hg:g<w.heap.size) (hb:Below w.heap.size w w1) {ra:Option Addr} {rn rc:Nat}
    (hr:IntsA true w.heap.size w1.heap.size w1 ra rn rc (rx xss k)):RowsTo g (w1.setCell ⟨g,k,none⟩ (.slice ra rn rc)) n xss (k+1)∧Below g w (w1.setCell ⟨g,k,none⟩ (.slice ra rn rc)) ∧
      (∃ v0,w1.cell? ⟨g,k,none⟩=some v0)∧w1.frozen? ⟨g,k,none⟩=false:=by
  obtain ⟨vs,ho,hv⟩:=h
  have hlen:vs.length=n:=by have:=ho.1;omega
  have ho1:w1.ownsRow g 57 1 (.slice (some ⟨g,0,none⟩) n n) n vs:=ho.kept (row:=none) ⟨hb.os,hb.tape,hb.output,hb.size,fun k hk _=>hb.block k hk⟩ (.inr (by simp [Value.ownBlock]))
  obtain ⟨hs1,hs2⟩:=ho1.stored k (.slice ra rn rc)
  have hsz:(w1.setCell ⟨g,k,none⟩ (.slice ra rn rc)).heap.size=w1.heap.size:=by simp [World.setCell]
  have hbs:=hb.size
  have hset:Keeps (g+1) w1.heap.size w1 (w1.setCell ⟨g,k,none⟩ (.slice ra rn rc)):=fun j h1 h2=>hs2.block j h2 (by intro e;cases e;omega)
  refine ⟨⟨_,hs1,fun i hi=>?_⟩,(hb.mono (by omega)).grown hs2 (by omega) (fun j hj=>by cases hj;exact Nat.le_refl _),?_,ho1.frozenAt k⟩
  · by_cases e:i=k
    · subst e
      exact ⟨ra,rn,rc,by simp [hlen,hk],by rw [hsz];exact (hr.wide (by omega) (Nat.le_refl _)).keep hset⟩
    · obtain ⟨ra',rn',rc',g1,g2⟩:=hv i (by omega)
      exact ⟨ra',rn',rc',by rw [List.getElem?_set_ne (by omega)];exact g1,by
        rw [hsz];exact ((g2.keep (Keeps.of_below hb (Nat.le_refl _))).wide (Nat.le_refl _) hbs).keep hset⟩
  · have:=ho1.cells (g:=g) rfl k vs[k] (by simp [hlen,hk])
    rw [Addr.add_lit] at this;exact ⟨_,by simpa using this⟩
end Go.Proofs.Ytpbclpopoodklaa
