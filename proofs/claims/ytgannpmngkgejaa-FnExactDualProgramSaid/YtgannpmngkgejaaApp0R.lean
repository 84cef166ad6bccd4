/- append([]Rational{}, xs...). -/
import Derived.Test.YtgannpmngkgejaaApp0
import Derived.Test.YtgannpmngkgejaaR15
namespace Go.Proofs.Ytgannpmngkgejaa
set_option linter.unusedSimpArgs false
set_option linter.unusedVariables false
open Go.RowKit
theorem run_append_rats {lo hi : Nat} {fz : Bool} {w : World} (ty : TypeId) (g : Nat) (hg : w.heap[g]? = some (.cells #[] 53 (0, 0)))
    (ao : Option Addr) (m c : Nat) (xs : List RatD) (hI : RatsA fz lo hi w ao m c xs) (hb : m ≤ 16777216) :
    ∃ a' c' w' s t, (Builtin.append_ #[28, 28] ty #[.slice (some ⟨g, 0, none⟩) 0 0, .slice ao m c]).run Try.prog w = .ok (.slice a' m c') w' ∧ Below w.heap.size w w' ∧ w.heap.size ≤ s ∧ t ≤ w'.heap.size ∧ RatsA true s t w' a' m c' xs ∧ HeadI w' s t := by
  obtain ⟨a', c', w', hr, hB, ho, h1, h2, h3⟩ := run_append_empty elemRat ty g hg ao m c (flatR xs) (RatsA.flat hI) hb
  by_cases hm : 0 < m
  · obtain ⟨s, t, g1, g2, g3, g4⟩ := OwnR.headR (xs := xs) ⟨ho hm, ratsOKof hI⟩ hB.size
    exact ⟨a', c', w', s, t, hr, hB, g1, g2, g3, g4⟩
  · refine ⟨a', c', w', w.heap.size, w.heap.size, hr, hB, Nat.le_refl _, hB.size, ⟨hI.len, h1, h2, fun h => absurd h hm, h3⟩, fun h => by omega⟩
end Go.Proofs.Ytgannpmngkgejaa
